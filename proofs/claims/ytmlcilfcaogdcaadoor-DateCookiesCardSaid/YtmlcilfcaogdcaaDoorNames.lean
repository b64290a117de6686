/- The numbers of this translation's functions and types by their names; facts of the types. Its conditions: none. -/
import Derived.Test.YtmlcilfcaogdcaaDoorRows
import Derived.Test.YtmlcilfcaogdcaaDoorR
namespace Go.Proofs.YtmlcilfcaogdcaaDoor
open Go.Pk
abbrev f_main_main : Nat := 0
abbrev f_gosem_cut : Nat := 1
abbrev f_gosem_cut_init : Nat := 2
abbrev f_law07_DateDays : Nat := 3
abbrev f_law07_DateCookies : Nat := 4
abbrev f_law07_DateTells : Nat := 5
abbrev f_law07_DateBack : Nat := 6
abbrev f_law07_DateNext : Nat := 7
abbrev f_law07_DateParts : Nat := 8
abbrev f_law07_dateAlive : Nat := 9
abbrev f_date_Days : Nat := 10
abbrev f_ref07_Days : Nat := 11
abbrev f_date_Civil : Nat := 12
abbrev f_ref07_Civil : Nat := 13
abbrev f_date_Cookie : Nat := 14
abbrev f_ref07_Cookie : Nat := 15
abbrev f_date_Text : Nat := 16
abbrev f_ref07_Text : Nat := 17
abbrev f_date_length : Nat := 18
abbrev f_ref07_Is : Nat := 19
abbrev f_ref07_Length : Nat := 20
abbrev f_ref07_year : Nat := 21
abbrev f_date_parts : Nat := 22
abbrev f_date_found_token : Nat := 23
abbrev f_ref07_parts : Nat := 24
abbrev f_ref07_digits : Nat := 25
abbrev f_ref07_time : Nat := 26
abbrev f_ref07_value : Nat := 27
abbrev f_ref07_month : Nat := 28
abbrev f_date_digits : Nat := 29
abbrev f_ref07_two : Nat := 30
abbrev f_date_leap : Nat := 31
abbrev f_ref07_leap : Nat := 32
abbrev f_date_clock : Nat := 33
abbrev f_date_number : Nat := 34
abbrev f_date_month : Nat := 35
abbrev f_ref01_Lower : Nat := 36
abbrev f_strconv_Itoa : Nat := 37
abbrev f_strings_Repeat : Nat := 38
abbrev f_strings_CutPrefix : Nat := 39
abbrev f_strings_TrimLeft : Nat := 40
abbrev f_strconv_Atoi : Nat := 41
abbrev f_octet_Same : Nat := 42
abbrev f_internal_strconv_Itoa : Nat := 43
abbrev f_math_bits_Mul : Nat := 44
abbrev f_strings_HasPrefix : Nat := 45
abbrev f_strings_Builder_Grow : Nat := 46
abbrev f_strings_Builder_WriteString : Nat := 47
abbrev f_strings_Builder_Len : Nat := 48
abbrev f_strings_Builder_String : Nat := 49
abbrev f_internal_stringslite_CutPrefix : Nat := 50
abbrev f_strings_trimLeftByte : Nat := 51
abbrev f_strings_makeASCIISet : Nat := 52
abbrev f_strings_trimLeftASCII : Nat := 53
abbrev f_strings_trimLeftUnicode : Nat := 54
abbrev f_internal_strconv_Atoi : Nat := 55
abbrev f_strconv_toError : Nat := 56
abbrev f_octet_Lower : Nat := 57
abbrev f_internal_strconv_FormatInt : Nat := 58
abbrev f_math_bits_Mul32 : Nat := 59
abbrev f_math_bits_Mul64 : Nat := 60
abbrev f_internal_stringslite_HasPrefix : Nat := 61
abbrev f_strings_Builder_copyCheck : Nat := 62
abbrev f_strings_Builder_grow : Nat := 63
abbrev f_strings_asciiSet_contains : Nat := 64
abbrev f_unicode_utf8_DecodeRuneInString : Nat := 65
abbrev f_strings_ContainsRune : Nat := 66
abbrev f_internal_strconv_ParseInt : Nat := 67
abbrev f_strconv_syntaxError : Nat := 68
abbrev f_strconv_rangeError : Nat := 69
abbrev f_strconv_baseError : Nat := 70
abbrev f_strconv_bitSizeError : Nat := 71
abbrev f_internal_strconv_small : Nat := 72
abbrev f_internal_strconv_numDigits : Nat := 73
abbrev f_internal_strconv_formatBase10 : Nat := 74
abbrev f_internal_strconv_formatBits : Nat := 75
abbrev f_internal_abi_NoEscape : Nat := 76
abbrev f_internal_bytealg_MakeNoZero : Nat := 77
abbrev f_unicode_utf8_decodeRuneInStringSlow : Nat := 78
abbrev f_strings_IndexRune : Nat := 79
abbrev f_internal_strconv_ParseUint : Nat := 80
abbrev f_internal_stringslite_Clone : Nat := 81
abbrev f_errors_New : Nat := 82
abbrev f_internal_strconv_log10Pow2 : Nat := 83
abbrev f_math_bits_Len64 : Nat := 84
abbrev f_internal_strconv_bool2_int : Nat := 85
abbrev f_internal_strconv_isPowerOfTwo : Nat := 86
abbrev f_math_bits_TrailingZeros : Nat := 87
abbrev f_strings_IndexByte : Nat := 88
abbrev f_unicode_utf8_ValidRune : Nat := 89
abbrev f_internal_bytealg_Cutover : Nat := 90
abbrev f_internal_bytealg_IndexString : Nat := 91
abbrev f_internal_strconv_lower : Nat := 92
abbrev f_internal_strconv_underscoreOK : Nat := 93
abbrev f_math_bits_TrailingZeros32 : Nat := 94
abbrev f_math_bits_TrailingZeros64 : Nat := 95
abbrev f_internal_stringslite_IndexByte : Nat := 96
abbrev f_internal_bytealg_IndexByteString : Nat := 97
abbrev f_runtime_boundsError_Error : Nat := 98
abbrev f_runtime_boundsError_RuntimeError : Nat := 99
abbrev f_runtime_errorString_Error : Nat := 100
abbrev f_runtime_errorString_RuntimeError : Nat := 101
abbrev f_runtime_plainError_Error : Nat := 102
abbrev f_runtime_plainError_RuntimeError : Nat := 103
abbrev f_runtime_errorAddressString_Error : Nat := 104
abbrev f_runtime_errorAddressString_RuntimeError : Nat := 105
abbrev f_runtime_TypeAssertionError_Error : Nat := 106
abbrev f_runtime_TypeAssertionError_RuntimeError : Nat := 107
abbrev f_runtime_PanicNilError_Error : Nat := 108
abbrev f_runtime_PanicNilError_RuntimeError : Nat := 109
abbrev f_internal_abi_Type_Align : Nat := 110
abbrev f_internal_runtime_maps_unhashableTypeError_Error : Nat := 111
abbrev f_internal_runtime_maps_unhashableTypeError_RuntimeError : Nat := 112
abbrev f_strings_Builder_Reset : Nat := 113
abbrev f_internal_strconv_Error_Error : Nat := 114
abbrev f_strconv_NumError_Error : Nat := 115
abbrev f_errors_errorString_Error : Nat := 116
abbrev f_internal_abi_Kind_String : Nat := 117
abbrev f_var_s_door_gosem_cut_vars_holds_initialisers_alone_see_the_manifest_s_row_cutvarsword_look_11_test_files_too : Nat := 118
abbrev f_var_s_door_internal_strconv_uint64pow10_is_laid_by_its_own_initialiser_plain_data_look_11 : Nat := 119
abbrev f_var_s_door_math_bits_deBruijn32tab_is_laid_by_its_own_initialiser_plain_data_look_11 : Nat := 120
abbrev f_var_s_door_math_bits_deBruijn64tab_is_laid_by_its_own_initialiser_plain_data_look_11 : Nat := 121
abbrev f_var_s_door_strconv_ErrRange_is_laid_by_its_own_call_of_errors_New_on_one_literal_look_11 : Nat := 122
abbrev f_var_s_door_strconv_ErrSyntax_is_laid_by_its_own_call_of_errors_New_on_one_literal_look_11 : Nat := 123
abbrev f_var_s_door_the_look_of_gosem_cut_vars_went_over_the_folder_that_the_caller_named_as_the_repository_s_root_look_11 : Nat := 124
abbrev f_var_s_door_unicode_utf8_acceptRanges_is_laid_by_its_own_initialiser_plain_data_look_11 : Nat := 125
abbrev f_var_s_door_unicode_utf8_first_is_laid_by_its_text_alone_pinned_1 : Nat := 126
abbrev f_gosem_cut_vars : Nat := 127
abbrev T_unit : Nat := 0
abbrev T_func : Nat := 1
abbrev T_int64 : Nat := 2
abbrev T_int : Nat := 3
abbrev T_bool : Nat := 4
abbrev T_uint8 : Nat := 5
abbrev T_abi_BoundsErrorCode : Nat := 6
abbrev T_struct_x_int64_y_int_signed_bool_code_abi_BoundsErrorCode : Nat := 7
abbrev T_runtime_boundsError : Nat := 8
abbrev T_string : Nat := 9
abbrev T_runtime_errorString : Nat := 10
abbrev T_runtime_plainError : Nat := 11
abbrev T_uintptr : Nat := 12
abbrev T_struct_msg_string_addr_uintptr : Nat := 13
abbrev T_runtime_errorAddressString : Nat := 14
abbrev T_p_runtime_TypeAssertionError : Nat := 15
abbrev T_p_runtime_PanicNilError : Nat := 16
abbrev T_p_abi_Type : Nat := 17
abbrev T_struct_typ_p_abi_Type : Nat := 18
abbrev T_maps_unhashableTypeError : Nat := 19
abbrev T_interface : Nat := 20
abbrev T_int32 : Nat := 21
abbrev T_arr3_int : Nat := 22
abbrev T_func_bool : Nat := 23
abbrev T_int64_bool : Nat := 24
abbrev T_func_int_int_int_int64_bool : Nat := 25
abbrev T_int_int_int_bool : Nat := 26
abbrev T_func_int64_int_int_int_bool : Nat := 27
abbrev T_func_arr3_int_int64_bool : Nat := 28
abbrev T_func_string_int64_bool : Nat := 29
abbrev T_func_string_bool : Nat := 30
abbrev T_func_int64_string : Nat := 31
abbrev T_func_int64_bool : Nat := 32
abbrev T_sl_uint8 : Nat := 33
abbrev T_func_int64_uint8_bool : Nat := 34
abbrev T_func_int_int_int : Nat := 35
abbrev T_func_int_int_int_bool : Nat := 36
abbrev T_func_int_int64 : Nat := 37
abbrev T_struct_time_bool_day_bool_month_bool_year_bool_secs_arr3_int : Nat := 38
abbrev T_date_found : Nat := 39
abbrev T_func_uint8_bool : Nat := 40
abbrev T_func_string : Nat := 41
abbrev T_sl_string : Nat := 42
abbrev T_sl_int : Nat := 43
abbrev T_func_string_int : Nat := 44
abbrev T_sl_int_bool : Nat := 45
abbrev T_func_string_sl_int_bool : Nat := 46
abbrev T_func_int_int_string : Nat := 47
abbrev T_func_int_string : Nat := 48
abbrev T_arr12_int : Nat := 49
abbrev T_func_int_bool : Nat := 50
abbrev T_p_date_found : Nat := 51
abbrev T_arr3_int_bool : Nat := 52
abbrev T_func_string_arr3_int_bool : Nat := 53
abbrev T_int_string_bool : Nat := 54
abbrev T_func_string_int_int_int_string_bool : Nat := 55
abbrev T_func_string_string : Nat := 56
abbrev T_func_string_int_string : Nat := 57
abbrev T_string_bool : Nat := 58
abbrev T_func_string_string_string_bool : Nat := 59
abbrev T_func_string_string_string : Nat := 60
abbrev T_interface_Error_string : Nat := 61
abbrev T_error : Nat := 62
abbrev T_int_error : Nat := 63
abbrev T_func_string_int_error : Nat := 64
abbrev T_func_string_string_bool : Nat := 65
abbrev T_uint : Nat := 66
abbrev T_uint_uint : Nat := 67
abbrev T_func_uint_uint_uint_uint : Nat := 68
abbrev T_p_strings_Builder : Nat := 69
abbrev T_struct_addr_p_strings_Builder_buf_sl_uint8 : Nat := 70
abbrev T_strings_Builder : Nat := 71
abbrev T_func_int : Nat := 72
abbrev T_func_int_2 : Nat := 73
abbrev T_func_string_2 : Nat := 74
abbrev T_func_string_uint8_string : Nat := 75
abbrev T_arr256_bool : Nat := 76
abbrev T_strings_asciiSet : Nat := 77
abbrev T_strings_asciiSet_bool : Nat := 78
abbrev T_func_string_strings_asciiSet_bool : Nat := 79
abbrev T_func_string_p_strings_asciiSet_string : Nat := 80
abbrev T_p_strings_asciiSet : Nat := 81
abbrev T_func_string_string_int_int_error_error : Nat := 82
abbrev T_func_int64_int_string : Nat := 83
abbrev T_uint32 : Nat := 84
abbrev T_uint32_uint32 : Nat := 85
abbrev T_func_uint32_uint32_uint32_uint32 : Nat := 86
abbrev T_uint64 : Nat := 87
abbrev T_uint64_uint64 : Nat := 88
abbrev T_func_uint64_uint64_uint64_uint64 : Nat := 89
abbrev T_p_uint8 : Nat := 90
abbrev T_int32_int : Nat := 91
abbrev T_func_string_int32_int : Nat := 92
abbrev T_func_string_int32_bool : Nat := 93
abbrev T_strconv_Error : Nat := 94
abbrev T_int64_error : Nat := 95
abbrev T_func_string_int_int_int64_error : Nat := 96
abbrev T_p_strconv_NumError : Nat := 97
abbrev T_func_string_string_p_strconv_NumError : Nat := 98
abbrev T_func_string_string_int_p_strconv_NumError : Nat := 99
abbrev T_arr24_uint8 : Nat := 100
abbrev T_func_uint64_int : Nat := 101
abbrev T_func_sl_uint8_uint64 : Nat := 102
abbrev T_sl_uint8_string : Nat := 103
abbrev T_func_sl_uint8_uint64_int_bool_bool_sl_uint8_string : Nat := 104
abbrev T_unsafe_Pointer : Nat := 105
abbrev T_func_unsafe_Pointer_unsafe_Pointer : Nat := 106
abbrev T_func_int_sl_uint8 : Nat := 107
abbrev T_func_string_int32_int_2 : Nat := 108
abbrev T_uint64_error : Nat := 109
abbrev T_func_string_int_int_uint64_error : Nat := 110
abbrev T_struct_Func_string_Num_string_Err_error : Nat := 111
abbrev T_strconv_NumError : Nat := 112
abbrev T_func_string_error : Nat := 113
abbrev T_func_int_int : Nat := 114
abbrev T_func_bool_int : Nat := 115
abbrev T_arr20_uint64 : Nat := 116
abbrev T_arr65_uint8 : Nat := 117
abbrev T_func_uint_int : Nat := 118
abbrev T_arr256_uint8 : Nat := 119
abbrev T_struct_lo_uint8_hi_uint8 : Nat := 120
abbrev T_utf8_acceptRange : Nat := 121
abbrev T_arr16_utf8_acceptRange : Nat := 122
abbrev T_func_string_uint8_int : Nat := 123
abbrev T_func_int32_bool : Nat := 124
abbrev T_func_string_string_int : Nat := 125
abbrev T_func_uint8_uint8 : Nat := 126
abbrev T_p_errors_errorString : Nat := 127
abbrev T_struct_s_string : Nat := 128
abbrev T_errors_errorString : Nat := 129
abbrev T_func_uint32_int : Nat := 130
abbrev T_arr32_uint8 : Nat := 131
abbrev T_arr64_uint8 : Nat := 132
abbrev T_struct_interface_p_abi_Type_concrete_p_abi_Type_asserted_p_a : Nat := 133
abbrev T_runtime_TypeAssertionError : Nat := 134
abbrev T_arr0_p_runtime_PanicNilError : Nat := 135
abbrev T_struct_arr0_p_runtime_PanicNilError : Nat := 136
abbrev T_runtime_PanicNilError : Nat := 137
abbrev T_abi_TFlag : Nat := 138
abbrev T_abi_Kind : Nat := 139
abbrev T_func_unsafe_Pointer_unsafe_Pointer_bool : Nat := 140
abbrev T_abi_NameOff : Nat := 141
abbrev T_abi_TypeOff : Nat := 142
abbrev T_struct_Size_uintptr_PtrBytes_uintptr_Hash_uint32_TFlag_abi_T : Nat := 143
abbrev T_abi_Type : Nat := 144
theorem un_int64 : Tryd.prog.underlying T_int64 = some (.int .i64) := by kernel_rfl
theorem tf_int64 : TF Tryd.prog T_int64 1 8 (.int .i64 (0 : Int)) := TF.of (by kernel_rfl) (by kernel_rfl) false (by kernel_rfl) (.inr rfl)
theorem un_int : Tryd.prog.underlying T_int = some (.int .i64) := by kernel_rfl
theorem tf_int : TF Tryd.prog T_int 1 8 (.int .i64 (0 : Int)) := TF.of (by kernel_rfl) (by kernel_rfl) false (by kernel_rfl) (.inr rfl)
theorem un_bool : Tryd.prog.underlying T_bool = some (.bool) := by kernel_rfl
theorem tf_bool : TF Tryd.prog T_bool 1 1 (.bool false) := TF.of (by kernel_rfl) (by kernel_rfl) false (by kernel_rfl) (.inr rfl)
theorem un_uint8 : Tryd.prog.underlying T_uint8 = some (.int .u8) := by kernel_rfl
theorem tf_uint8 : TF Tryd.prog T_uint8 1 1 (.int .u8 (0 : Int)) := TF.of (by kernel_rfl) (by kernel_rfl) false (by kernel_rfl) (.inr rfl)
theorem un_abi_BoundsErrorCode : Tryd.prog.underlying T_abi_BoundsErrorCode = some (.int .u8) := by kernel_rfl
theorem tf_abi_BoundsErrorCode : TF Tryd.prog T_abi_BoundsErrorCode 1 1 (.int .u8 (0 : Int)) := TF.of (by kernel_rfl) (by kernel_rfl) false (by kernel_rfl) (.inr rfl)
theorem tf_struct_x_int64_y_int_signed_bool_code_abi_BoundsErrorCode : TF Tryd.prog T_struct_x_int64_y_int_signed_bool_code_abi_BoundsErrorCode 4 24 (.agg #[.int .i64 (0 : Int), .int .i64 (0 : Int), .bool false, .int .u8 (0 : Int)]) := TF.of (by kernel_rfl) (by kernel_rfl) true (by kernel_rfl) (.inl rfl)
theorem tf_runtime_boundsError : TF Tryd.prog T_runtime_boundsError 4 24 (.agg #[.int .i64 (0 : Int), .int .i64 (0 : Int), .bool false, .int .u8 (0 : Int)]) := TF.of (by kernel_rfl) (by kernel_rfl) true (by kernel_rfl) (.inl rfl)
theorem un_string : Tryd.prog.underlying T_string = some (.string) := by kernel_rfl
theorem tf_string : TF Tryd.prog T_string 1 16 (.string (mkS [])) := TF.of (by kernel_rfl) (by kernel_rfl) false (by kernel_rfl) (.inr rfl)
theorem un_runtime_errorString : Tryd.prog.underlying T_runtime_errorString = some (.string) := by kernel_rfl
theorem tf_runtime_errorString : TF Tryd.prog T_runtime_errorString 1 16 (.string (mkS [])) := TF.of (by kernel_rfl) (by kernel_rfl) false (by kernel_rfl) (.inr rfl)
theorem un_runtime_plainError : Tryd.prog.underlying T_runtime_plainError = some (.string) := by kernel_rfl
theorem tf_runtime_plainError : TF Tryd.prog T_runtime_plainError 1 16 (.string (mkS [])) := TF.of (by kernel_rfl) (by kernel_rfl) false (by kernel_rfl) (.inr rfl)
theorem un_uintptr : Tryd.prog.underlying T_uintptr = some (.int .u64) := by kernel_rfl
theorem tf_uintptr : TF Tryd.prog T_uintptr 1 8 (.int .u64 (0 : Int)) := TF.of (by kernel_rfl) (by kernel_rfl) false (by kernel_rfl) (.inr rfl)
theorem tf_struct_msg_string_addr_uintptr : TF Tryd.prog T_struct_msg_string_addr_uintptr 2 24 (.agg #[.string (mkS []), .int .u64 (0 : Int)]) := TF.of (by kernel_rfl) (by kernel_rfl) true (by kernel_rfl) (.inl rfl)
theorem tf_runtime_errorAddressString : TF Tryd.prog T_runtime_errorAddressString 2 24 (.agg #[.string (mkS []), .int .u64 (0 : Int)]) := TF.of (by kernel_rfl) (by kernel_rfl) true (by kernel_rfl) (.inl rfl)
theorem un_p_runtime_TypeAssertionError : Tryd.prog.underlying T_p_runtime_TypeAssertionError = some (.pointer T_runtime_TypeAssertionError) := by kernel_rfl
theorem tf_p_runtime_TypeAssertionError : TF Tryd.prog T_p_runtime_TypeAssertionError 1 8 (.pointer none) := TF.of (by kernel_rfl) (by kernel_rfl) false (by kernel_rfl) (.inr rfl)
theorem un_p_runtime_PanicNilError : Tryd.prog.underlying T_p_runtime_PanicNilError = some (.pointer T_runtime_PanicNilError) := by kernel_rfl
theorem tf_p_runtime_PanicNilError : TF Tryd.prog T_p_runtime_PanicNilError 1 8 (.pointer none) := TF.of (by kernel_rfl) (by kernel_rfl) false (by kernel_rfl) (.inr rfl)
theorem un_p_abi_Type : Tryd.prog.underlying T_p_abi_Type = some (.pointer T_abi_Type) := by kernel_rfl
theorem tf_p_abi_Type : TF Tryd.prog T_p_abi_Type 1 8 (.pointer none) := TF.of (by kernel_rfl) (by kernel_rfl) false (by kernel_rfl) (.inr rfl)
theorem tf_struct_typ_p_abi_Type : TF Tryd.prog T_struct_typ_p_abi_Type 1 8 (.agg #[.pointer none]) := TF.of (by kernel_rfl) (by kernel_rfl) true (by kernel_rfl) (.inl rfl)
theorem tf_maps_unhashableTypeError : TF Tryd.prog T_maps_unhashableTypeError 1 8 (.agg #[.pointer none]) := TF.of (by kernel_rfl) (by kernel_rfl) true (by kernel_rfl) (.inl rfl)
theorem tf_interface : TF Tryd.prog T_interface 1 16 .nilIface := TF.of (by kernel_rfl) (by kernel_rfl) false (by kernel_rfl) (.inr rfl)
theorem un_int32 : Tryd.prog.underlying T_int32 = some (.int .i32) := by kernel_rfl
theorem tf_int32 : TF Tryd.prog T_int32 1 4 (.int .i32 (0 : Int)) := TF.of (by kernel_rfl) (by kernel_rfl) false (by kernel_rfl) (.inr rfl)
theorem un_arr3_int : Tryd.prog.underlying T_arr3_int = some (.array 3 T_int) := by kernel_rfl
theorem tf_arr3_int : TF Tryd.prog T_arr3_int 3 24 (.agg #[.int .i64 (0 : Int), .int .i64 (0 : Int), .int .i64 (0 : Int)]) := TF.of (by kernel_rfl) (by kernel_rfl) true (by kernel_rfl) (.inl rfl)
theorem un_sl_uint8 : Tryd.prog.underlying T_sl_uint8 = some (.slice T_uint8) := by kernel_rfl
theorem tf_sl_uint8 : TF Tryd.prog T_sl_uint8 1 24 (.slice none 0 0) := TF.of (by kernel_rfl) (by kernel_rfl) false (by kernel_rfl) (.inr rfl)
theorem tf_struct_time_bool_day_bool_month_bool_year_bool_secs_arr3_int : TF Tryd.prog T_struct_time_bool_day_bool_month_bool_year_bool_secs_arr3_int 10 56 (.agg #[.bool false, .bool false, .bool false, .bool false, .int .i64 (0 : Int), .int .i64 (0 : Int), .int .i64 (0 : Int), .int .i64 (0 : Int), .int .i64 (0 : Int), .int .i64 (0 : Int)]) := TF.of (by kernel_rfl) (by kernel_rfl) true (by kernel_rfl) (.inl rfl)
theorem tf_date_found : TF Tryd.prog T_date_found 10 56 (.agg #[.bool false, .bool false, .bool false, .bool false, .int .i64 (0 : Int), .int .i64 (0 : Int), .int .i64 (0 : Int), .int .i64 (0 : Int), .int .i64 (0 : Int), .int .i64 (0 : Int)]) := TF.of (by kernel_rfl) (by kernel_rfl) true (by kernel_rfl) (.inl rfl)
theorem un_sl_string : Tryd.prog.underlying T_sl_string = some (.slice T_string) := by kernel_rfl
theorem tf_sl_string : TF Tryd.prog T_sl_string 1 24 (.slice none 0 0) := TF.of (by kernel_rfl) (by kernel_rfl) false (by kernel_rfl) (.inr rfl)
theorem un_sl_int : Tryd.prog.underlying T_sl_int = some (.slice T_int) := by kernel_rfl
theorem tf_sl_int : TF Tryd.prog T_sl_int 1 24 (.slice none 0 0) := TF.of (by kernel_rfl) (by kernel_rfl) false (by kernel_rfl) (.inr rfl)
theorem un_arr12_int : Tryd.prog.underlying T_arr12_int = some (.array 12 T_int) := by kernel_rfl
theorem tf_arr12_int : TF Tryd.prog T_arr12_int 12 96 (.agg #[.int .i64 (0 : Int), .int .i64 (0 : Int), .int .i64 (0 : Int), .int .i64 (0 : Int), .int .i64 (0 : Int), .int .i64 (0 : Int), .int .i64 (0 : Int), .int .i64 (0 : Int), .int .i64 (0 : Int), .int .i64 (0 : Int), .int .i64 (0 : Int), .int .i64 (0 : Int)]) := TF.of (by kernel_rfl) (by kernel_rfl) true (by kernel_rfl) (.inl rfl)
theorem un_p_date_found : Tryd.prog.underlying T_p_date_found = some (.pointer T_date_found) := by kernel_rfl
theorem tf_p_date_found : TF Tryd.prog T_p_date_found 1 8 (.pointer none) := TF.of (by kernel_rfl) (by kernel_rfl) false (by kernel_rfl) (.inr rfl)
theorem tf_interface_Error_string : TF Tryd.prog T_interface_Error_string 1 16 .nilIface := TF.of (by kernel_rfl) (by kernel_rfl) false (by kernel_rfl) (.inr rfl)
theorem tf_error : TF Tryd.prog T_error 1 16 .nilIface := TF.of (by kernel_rfl) (by kernel_rfl) false (by kernel_rfl) (.inr rfl)
theorem un_uint : Tryd.prog.underlying T_uint = some (.int .u64) := by kernel_rfl
theorem tf_uint : TF Tryd.prog T_uint 1 8 (.int .u64 (0 : Int)) := TF.of (by kernel_rfl) (by kernel_rfl) false (by kernel_rfl) (.inr rfl)
theorem un_p_strings_Builder : Tryd.prog.underlying T_p_strings_Builder = some (.pointer T_strings_Builder) := by kernel_rfl
theorem tf_p_strings_Builder : TF Tryd.prog T_p_strings_Builder 1 8 (.pointer none) := TF.of (by kernel_rfl) (by kernel_rfl) false (by kernel_rfl) (.inr rfl)
theorem tf_struct_addr_p_strings_Builder_buf_sl_uint8 : TF Tryd.prog T_struct_addr_p_strings_Builder_buf_sl_uint8 2 32 (.agg #[.pointer none, .slice none 0 0]) := TF.of (by kernel_rfl) (by kernel_rfl) true (by kernel_rfl) (.inl rfl)
theorem tf_strings_Builder : TF Tryd.prog T_strings_Builder 2 32 (.agg #[.pointer none, .slice none 0 0]) := TF.of (by kernel_rfl) (by kernel_rfl) true (by kernel_rfl) (.inl rfl)
theorem un_arr256_bool : Tryd.prog.underlying T_arr256_bool = some (.array 256 T_bool) := by kernel_rfl
theorem un_strings_asciiSet : Tryd.prog.underlying T_strings_asciiSet = some (.array 256 T_bool) := by kernel_rfl
theorem un_p_strings_asciiSet : Tryd.prog.underlying T_p_strings_asciiSet = some (.pointer T_strings_asciiSet) := by kernel_rfl
theorem tf_p_strings_asciiSet : TF Tryd.prog T_p_strings_asciiSet 1 8 (.pointer none) := TF.of (by kernel_rfl) (by kernel_rfl) false (by kernel_rfl) (.inr rfl)
theorem un_uint32 : Tryd.prog.underlying T_uint32 = some (.int .u32) := by kernel_rfl
theorem tf_uint32 : TF Tryd.prog T_uint32 1 4 (.int .u32 (0 : Int)) := TF.of (by kernel_rfl) (by kernel_rfl) false (by kernel_rfl) (.inr rfl)
theorem un_uint64 : Tryd.prog.underlying T_uint64 = some (.int .u64) := by kernel_rfl
theorem tf_uint64 : TF Tryd.prog T_uint64 1 8 (.int .u64 (0 : Int)) := TF.of (by kernel_rfl) (by kernel_rfl) false (by kernel_rfl) (.inr rfl)
theorem un_p_uint8 : Tryd.prog.underlying T_p_uint8 = some (.pointer T_uint8) := by kernel_rfl
theorem tf_p_uint8 : TF Tryd.prog T_p_uint8 1 8 (.pointer none) := TF.of (by kernel_rfl) (by kernel_rfl) false (by kernel_rfl) (.inr rfl)
theorem un_strconv_Error : Tryd.prog.underlying T_strconv_Error = some (.int .i64) := by kernel_rfl
theorem tf_strconv_Error : TF Tryd.prog T_strconv_Error 1 8 (.int .i64 (0 : Int)) := TF.of (by kernel_rfl) (by kernel_rfl) false (by kernel_rfl) (.inr rfl)
theorem un_p_strconv_NumError : Tryd.prog.underlying T_p_strconv_NumError = some (.pointer T_strconv_NumError) := by kernel_rfl
theorem tf_p_strconv_NumError : TF Tryd.prog T_p_strconv_NumError 1 8 (.pointer none) := TF.of (by kernel_rfl) (by kernel_rfl) false (by kernel_rfl) (.inr rfl)
theorem un_arr24_uint8 : Tryd.prog.underlying T_arr24_uint8 = some (.array 24 T_uint8) := by kernel_rfl
theorem tf_arr24_uint8 : TF Tryd.prog T_arr24_uint8 24 24 (.agg #[.int .u8 (0 : Int), .int .u8 (0 : Int), .int .u8 (0 : Int), .int .u8 (0 : Int), .int .u8 (0 : Int), .int .u8 (0 : Int), .int .u8 (0 : Int), .int .u8 (0 : Int), .int .u8 (0 : Int), .int .u8 (0 : Int), .int .u8 (0 : Int), .int .u8 (0 : Int), .int .u8 (0 : Int), .int .u8 (0 : Int), .int .u8 (0 : Int), .int .u8 (0 : Int), .int .u8 (0 : Int), .int .u8 (0 : Int), .int .u8 (0 : Int), .int .u8 (0 : Int), .int .u8 (0 : Int), .int .u8 (0 : Int), .int .u8 (0 : Int), .int .u8 (0 : Int)]) := TF.of (by kernel_rfl) (by kernel_rfl) true (by kernel_rfl) (.inl rfl)
theorem tf_struct_Func_string_Num_string_Err_error : TF Tryd.prog T_struct_Func_string_Num_string_Err_error 3 48 (.agg #[.string (mkS []), .string (mkS []), .nilIface]) := TF.of (by kernel_rfl) (by kernel_rfl) true (by kernel_rfl) (.inl rfl)
theorem tf_strconv_NumError : TF Tryd.prog T_strconv_NumError 3 48 (.agg #[.string (mkS []), .string (mkS []), .nilIface]) := TF.of (by kernel_rfl) (by kernel_rfl) true (by kernel_rfl) (.inl rfl)
theorem un_arr20_uint64 : Tryd.prog.underlying T_arr20_uint64 = some (.array 20 T_uint64) := by kernel_rfl
theorem tf_arr20_uint64 : TF Tryd.prog T_arr20_uint64 20 160 (.agg #[.int .u64 (0 : Int), .int .u64 (0 : Int), .int .u64 (0 : Int), .int .u64 (0 : Int), .int .u64 (0 : Int), .int .u64 (0 : Int), .int .u64 (0 : Int), .int .u64 (0 : Int), .int .u64 (0 : Int), .int .u64 (0 : Int), .int .u64 (0 : Int), .int .u64 (0 : Int), .int .u64 (0 : Int), .int .u64 (0 : Int), .int .u64 (0 : Int), .int .u64 (0 : Int), .int .u64 (0 : Int), .int .u64 (0 : Int), .int .u64 (0 : Int), .int .u64 (0 : Int)]) := TF.of (by kernel_rfl) (by kernel_rfl) true (by kernel_rfl) (.inl rfl)
theorem un_arr65_uint8 : Tryd.prog.underlying T_arr65_uint8 = some (.array 65 T_uint8) := by kernel_rfl
theorem un_arr256_uint8 : Tryd.prog.underlying T_arr256_uint8 = some (.array 256 T_uint8) := by kernel_rfl
theorem tf_struct_lo_uint8_hi_uint8 : TF Tryd.prog T_struct_lo_uint8_hi_uint8 2 2 (.agg #[.int .u8 (0 : Int), .int .u8 (0 : Int)]) := TF.of (by kernel_rfl) (by kernel_rfl) true (by kernel_rfl) (.inl rfl)
theorem tf_utf8_acceptRange : TF Tryd.prog T_utf8_acceptRange 2 2 (.agg #[.int .u8 (0 : Int), .int .u8 (0 : Int)]) := TF.of (by kernel_rfl) (by kernel_rfl) true (by kernel_rfl) (.inl rfl)
theorem un_arr16_utf8_acceptRange : Tryd.prog.underlying T_arr16_utf8_acceptRange = some (.array 16 T_utf8_acceptRange) := by kernel_rfl
theorem tf_arr16_utf8_acceptRange : TF Tryd.prog T_arr16_utf8_acceptRange 32 32 (.agg #[.int .u8 (0 : Int), .int .u8 (0 : Int), .int .u8 (0 : Int), .int .u8 (0 : Int), .int .u8 (0 : Int), .int .u8 (0 : Int), .int .u8 (0 : Int), .int .u8 (0 : Int), .int .u8 (0 : Int), .int .u8 (0 : Int), .int .u8 (0 : Int), .int .u8 (0 : Int), .int .u8 (0 : Int), .int .u8 (0 : Int), .int .u8 (0 : Int), .int .u8 (0 : Int), .int .u8 (0 : Int), .int .u8 (0 : Int), .int .u8 (0 : Int), .int .u8 (0 : Int), .int .u8 (0 : Int), .int .u8 (0 : Int), .int .u8 (0 : Int), .int .u8 (0 : Int), .int .u8 (0 : Int), .int .u8 (0 : Int), .int .u8 (0 : Int), .int .u8 (0 : Int), .int .u8 (0 : Int), .int .u8 (0 : Int), .int .u8 (0 : Int), .int .u8 (0 : Int)]) := TF.of (by kernel_rfl) (by kernel_rfl) true (by kernel_rfl) (.inl rfl)
theorem un_p_errors_errorString : Tryd.prog.underlying T_p_errors_errorString = some (.pointer T_errors_errorString) := by kernel_rfl
theorem tf_p_errors_errorString : TF Tryd.prog T_p_errors_errorString 1 8 (.pointer none) := TF.of (by kernel_rfl) (by kernel_rfl) false (by kernel_rfl) (.inr rfl)
theorem tf_struct_s_string : TF Tryd.prog T_struct_s_string 1 16 (.agg #[.string (mkS [])]) := TF.of (by kernel_rfl) (by kernel_rfl) true (by kernel_rfl) (.inl rfl)
theorem tf_errors_errorString : TF Tryd.prog T_errors_errorString 1 16 (.agg #[.string (mkS [])]) := TF.of (by kernel_rfl) (by kernel_rfl) true (by kernel_rfl) (.inl rfl)
theorem un_arr32_uint8 : Tryd.prog.underlying T_arr32_uint8 = some (.array 32 T_uint8) := by kernel_rfl
theorem tf_arr32_uint8 : TF Tryd.prog T_arr32_uint8 32 32 (.agg #[.int .u8 (0 : Int), .int .u8 (0 : Int), .int .u8 (0 : Int), .int .u8 (0 : Int), .int .u8 (0 : Int), .int .u8 (0 : Int), .int .u8 (0 : Int), .int .u8 (0 : Int), .int .u8 (0 : Int), .int .u8 (0 : Int), .int .u8 (0 : Int), .int .u8 (0 : Int), .int .u8 (0 : Int), .int .u8 (0 : Int), .int .u8 (0 : Int), .int .u8 (0 : Int), .int .u8 (0 : Int), .int .u8 (0 : Int), .int .u8 (0 : Int), .int .u8 (0 : Int), .int .u8 (0 : Int), .int .u8 (0 : Int), .int .u8 (0 : Int), .int .u8 (0 : Int), .int .u8 (0 : Int), .int .u8 (0 : Int), .int .u8 (0 : Int), .int .u8 (0 : Int), .int .u8 (0 : Int), .int .u8 (0 : Int), .int .u8 (0 : Int), .int .u8 (0 : Int)]) := TF.of (by kernel_rfl) (by kernel_rfl) true (by kernel_rfl) (.inl rfl)
theorem un_arr64_uint8 : Tryd.prog.underlying T_arr64_uint8 = some (.array 64 T_uint8) := by kernel_rfl
theorem tf_arr64_uint8 : TF Tryd.prog T_arr64_uint8 64 64 (.agg #[.int .u8 (0 : Int), .int .u8 (0 : Int), .int .u8 (0 : Int), .int .u8 (0 : Int), .int .u8 (0 : Int), .int .u8 (0 : Int), .int .u8 (0 : Int), .int .u8 (0 : Int), .int .u8 (0 : Int), .int .u8 (0 : Int), .int .u8 (0 : Int), .int .u8 (0 : Int), .int .u8 (0 : Int), .int .u8 (0 : Int), .int .u8 (0 : Int), .int .u8 (0 : Int), .int .u8 (0 : Int), .int .u8 (0 : Int), .int .u8 (0 : Int), .int .u8 (0 : Int), .int .u8 (0 : Int), .int .u8 (0 : Int), .int .u8 (0 : Int), .int .u8 (0 : Int), .int .u8 (0 : Int), .int .u8 (0 : Int), .int .u8 (0 : Int), .int .u8 (0 : Int), .int .u8 (0 : Int), .int .u8 (0 : Int), .int .u8 (0 : Int), .int .u8 (0 : Int), .int .u8 (0 : Int), .int .u8 (0 : Int), .int .u8 (0 : Int), .int .u8 (0 : Int), .int .u8 (0 : Int), .int .u8 (0 : Int), .int .u8 (0 : Int), .int .u8 (0 : Int), .int .u8 (0 : Int), .int .u8 (0 : Int), .int .u8 (0 : Int), .int .u8 (0 : Int), .int .u8 (0 : Int), .int .u8 (0 : Int), .int .u8 (0 : Int), .int .u8 (0 : Int), .int .u8 (0 : Int), .int .u8 (0 : Int), .int .u8 (0 : Int), .int .u8 (0 : Int), .int .u8 (0 : Int), .int .u8 (0 : Int), .int .u8 (0 : Int), .int .u8 (0 : Int), .int .u8 (0 : Int), .int .u8 (0 : Int), .int .u8 (0 : Int), .int .u8 (0 : Int), .int .u8 (0 : Int), .int .u8 (0 : Int), .int .u8 (0 : Int), .int .u8 (0 : Int)]) := TF.of (by kernel_rfl) (by kernel_rfl) true (by kernel_rfl) (.inl rfl)
theorem tf_struct_interface_p_abi_Type_concrete_p_abi_Type_asserted_p_a : TF Tryd.prog T_struct_interface_p_abi_Type_concrete_p_abi_Type_asserted_p_a 4 40 (.agg #[.pointer none, .pointer none, .pointer none, .string (mkS [])]) := TF.of (by kernel_rfl) (by kernel_rfl) true (by kernel_rfl) (.inl rfl)
theorem tf_runtime_TypeAssertionError : TF Tryd.prog T_runtime_TypeAssertionError 4 40 (.agg #[.pointer none, .pointer none, .pointer none, .string (mkS [])]) := TF.of (by kernel_rfl) (by kernel_rfl) true (by kernel_rfl) (.inl rfl)
theorem un_arr0_p_runtime_PanicNilError : Tryd.prog.underlying T_arr0_p_runtime_PanicNilError = some (.array 0 T_p_runtime_PanicNilError) := by kernel_rfl
theorem un_abi_TFlag : Tryd.prog.underlying T_abi_TFlag = some (.int .u8) := by kernel_rfl
theorem tf_abi_TFlag : TF Tryd.prog T_abi_TFlag 1 1 (.int .u8 (0 : Int)) := TF.of (by kernel_rfl) (by kernel_rfl) false (by kernel_rfl) (.inr rfl)
theorem un_abi_Kind : Tryd.prog.underlying T_abi_Kind = some (.int .u8) := by kernel_rfl
theorem tf_abi_Kind : TF Tryd.prog T_abi_Kind 1 1 (.int .u8 (0 : Int)) := TF.of (by kernel_rfl) (by kernel_rfl) false (by kernel_rfl) (.inr rfl)
theorem un_abi_NameOff : Tryd.prog.underlying T_abi_NameOff = some (.int .i32) := by kernel_rfl
theorem tf_abi_NameOff : TF Tryd.prog T_abi_NameOff 1 4 (.int .i32 (0 : Int)) := TF.of (by kernel_rfl) (by kernel_rfl) false (by kernel_rfl) (.inr rfl)
theorem un_abi_TypeOff : Tryd.prog.underlying T_abi_TypeOff = some (.int .i32) := by kernel_rfl
theorem tf_abi_TypeOff : TF Tryd.prog T_abi_TypeOff 1 4 (.int .i32 (0 : Int)) := TF.of (by kernel_rfl) (by kernel_rfl) false (by kernel_rfl) (.inr rfl)
theorem tf_struct_Size_uintptr_PtrBytes_uintptr_Hash_uint32_TFlag_abi_T : TF Tryd.prog T_struct_Size_uintptr_PtrBytes_uintptr_Hash_uint32_TFlag_abi_T 11 48 (.agg #[.int .u64 (0 : Int), .int .u64 (0 : Int), .int .u32 (0 : Int), .int .u8 (0 : Int), .int .u8 (0 : Int), .int .u8 (0 : Int), .int .u8 (0 : Int), .nilFunc, .pointer none, .int .i32 (0 : Int), .int .i32 (0 : Int)]) := TF.of (by kernel_rfl) (by kernel_rfl) true (by kernel_rfl) (.inl rfl)
theorem tf_abi_Type : TF Tryd.prog T_abi_Type 11 48 (.agg #[.int .u64 (0 : Int), .int .u64 (0 : Int), .int .u32 (0 : Int), .int .u8 (0 : Int), .int .u8 (0 : Int), .int .u8 (0 : Int), .int .u8 (0 : Int), .nilFunc, .pointer none, .int .i32 (0 : Int), .int .i32 (0 : Int)]) := TF.of (by kernel_rfl) (by kernel_rfl) true (by kernel_rfl) (.inl rfl)
end Go.Proofs.YtmlcilfcaogdcaaDoor
