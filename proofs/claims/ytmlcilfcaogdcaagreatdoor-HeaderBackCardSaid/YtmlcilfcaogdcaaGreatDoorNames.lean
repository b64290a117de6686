/- The numbers of this translation's functions and types by their names; facts of the types. Its conditions: none. -/
import Derived.Test.YtmlcilfcaogdcaaGreatDoorRows
import Derived.Test.YtmlcilfcaogdcaaGreatDoorR
namespace Go.Proofs.YtmlcilfcaogdcaaGreatDoor
open Go.Pk
abbrev f_main_main : Nat := 0
abbrev f_gosem_cut : Nat := 1
abbrev f_gosem_cut_init : Nat := 2
abbrev f_law08_HeaderNames : Nat := 3
abbrev f_law08_HeaderReads : Nat := 4
abbrev f_law08_HeaderBack : Nat := 5
abbrev f_law08_HeaderLast : Nat := 6
abbrev f_law08_HeaderKeeps : Nat := 7
abbrev f_header_Parse : Nat := 8
abbrev f_law08_headerAlive : Nat := 9
abbrev f_ref08_Parse : Nat := 10
abbrev f_header_Text : Nat := 11
abbrev f_header_Right : Nat := 12
abbrev f_header_control : Nat := 13
abbrev f_octet_Split : Nat := 14
abbrev f_header_pair : Nat := 15
abbrev f_header_attribute : Nat := 16
abbrev f_octet_Lower : Nat := 17
abbrev f_ref01_Split : Nat := 18
abbrev f_ref08_ahead : Nat := 19
abbrev f_ref08_after : Nat := 20
abbrev f_ref08_cut : Nat := 21
abbrev f_ref01_Trim : Nat := 22
abbrev f_ref01_Lower : Nat := 23
abbrev f_ref07_Cookie : Nat := 24
abbrev f_ref08_age : Nat := 25
abbrev f_header_written : Nat := 26
abbrev f_strings_Split : Nat := 27
abbrev f_strings_Cut : Nat := 28
abbrev f_octet_Trim : Nat := 29
abbrev f_date_Cookie : Nat := 30
abbrev f_header_age : Nat := 31
abbrev f_strings_TrimPrefix : Nat := 32
abbrev f_strings_HasPrefix : Nat := 33
abbrev f_header_names : Nat := 34
abbrev f_octet_Same : Nat := 35
abbrev f_ref01_blank : Nat := 36
abbrev f_ref07_parts : Nat := 37
abbrev f_ref07_digits : Nat := 38
abbrev f_ref07_time : Nat := 39
abbrev f_ref07_value : Nat := 40
abbrev f_ref07_month : Nat := 41
abbrev f_ref07_Is : Nat := 42
abbrev f_ref07_Days : Nat := 43
abbrev f_ref01_Digits : Nat := 44
abbrev f_header_written_c1 : Nat := 45
abbrev f_date_Text : Nat := 46
abbrev f_strconv_FormatInt : Nat := 47
abbrev f_header_dotted : Nat := 48
abbrev f_strings_Join : Nat := 49
abbrev f_strings_genSplit : Nat := 50
abbrev f_internal_stringslite_Cut : Nat := 51
abbrev f_strings_Trim : Nat := 52
abbrev f_date_parts : Nat := 53
abbrev f_date_found_token : Nat := 54
abbrev f_date_Days : Nat := 55
abbrev f_strings_CutPrefix : Nat := 56
abbrev f_octet_Digits : Nat := 57
abbrev f_octet_Number : Nat := 58
abbrev f_strings_TrimLeft : Nat := 59
abbrev f_internal_stringslite_TrimPrefix : Nat := 60
abbrev f_internal_stringslite_HasPrefix : Nat := 61
abbrev f_ref07_Length : Nat := 62
abbrev f_ref07_year : Nat := 63
abbrev f_date_Civil : Nat := 64
abbrev f_date_digits : Nat := 65
abbrev f_internal_strconv_FormatInt : Nat := 66
abbrev f_strings_Builder_Grow : Nat := 67
abbrev f_strings_Builder_WriteString : Nat := 68
abbrev f_strings_Builder_String : Nat := 69
abbrev f_strings_explode : Nat := 70
abbrev f_strings_Count : Nat := 71
abbrev f_strings_Index : Nat := 72
abbrev f_internal_stringslite_Index : Nat := 73
abbrev f_strings_trimLeftByte : Nat := 74
abbrev f_strings_trimRightByte : Nat := 75
abbrev f_strings_makeASCIISet : Nat := 76
abbrev f_strings_trimLeftASCII : Nat := 77
abbrev f_strings_trimRightASCII : Nat := 78
abbrev f_strings_trimLeftUnicode : Nat := 79
abbrev f_strings_trimRightUnicode : Nat := 80
abbrev f_date_clock : Nat := 81
abbrev f_date_number : Nat := 82
abbrev f_date_month : Nat := 83
abbrev f_date_length : Nat := 84
abbrev f_internal_stringslite_CutPrefix : Nat := 85
abbrev f_ref07_leap : Nat := 86
abbrev f_strconv_Itoa : Nat := 87
abbrev f_strings_Repeat : Nat := 88
abbrev f_internal_strconv_small : Nat := 89
abbrev f_internal_strconv_numDigits : Nat := 90
abbrev f_internal_strconv_formatBase10 : Nat := 91
abbrev f_internal_strconv_formatBits : Nat := 92
abbrev f_strings_Builder_copyCheck : Nat := 93
abbrev f_strings_Builder_grow : Nat := 94
abbrev f_unicode_utf8_RuneCountInString : Nat := 95
abbrev f_unicode_utf8_DecodeRuneInString : Nat := 96
abbrev f_internal_bytealg_CountString : Nat := 97
abbrev f_internal_stringslite_IndexByte : Nat := 98
abbrev f_internal_bytealg_IndexString : Nat := 99
abbrev f_internal_bytealg_Cutover : Nat := 100
abbrev f_internal_bytealg_IndexRabinKarp_string : Nat := 101
abbrev f_strings_asciiSet_contains : Nat := 102
abbrev f_strings_ContainsRune : Nat := 103
abbrev f_unicode_utf8_DecodeLastRuneInString : Nat := 104
abbrev f_strconv_Atoi : Nat := 105
abbrev f_date_leap : Nat := 106
abbrev f_internal_strconv_Itoa : Nat := 107
abbrev f_math_bits_Mul : Nat := 108
abbrev f_strings_Builder_Len : Nat := 109
abbrev f_internal_strconv_log10Pow2 : Nat := 110
abbrev f_math_bits_Len64 : Nat := 111
abbrev f_internal_strconv_bool2_int : Nat := 112
abbrev f_internal_strconv_isPowerOfTwo : Nat := 113
abbrev f_math_bits_TrailingZeros : Nat := 114
abbrev f_internal_abi_NoEscape : Nat := 115
abbrev f_internal_bytealg_MakeNoZero : Nat := 116
abbrev f_unicode_utf8_decodeRuneInStringSlow : Nat := 117
abbrev f_internal_bytealg_IndexByteString : Nat := 118
abbrev f_internal_bytealg_hashStr_string : Nat := 119
abbrev f_strings_IndexRune : Nat := 120
abbrev f_unicode_utf8_RuneStart : Nat := 121
abbrev f_internal_strconv_Atoi : Nat := 122
abbrev f_strconv_toError : Nat := 123
abbrev f_math_bits_Mul32 : Nat := 124
abbrev f_math_bits_Mul64 : Nat := 125
abbrev f_math_bits_TrailingZeros32 : Nat := 126
abbrev f_math_bits_TrailingZeros64 : Nat := 127
abbrev f_strings_IndexByte : Nat := 128
abbrev f_unicode_utf8_ValidRune : Nat := 129
abbrev f_internal_strconv_ParseInt : Nat := 130
abbrev f_strconv_syntaxError : Nat := 131
abbrev f_strconv_rangeError : Nat := 132
abbrev f_strconv_baseError : Nat := 133
abbrev f_strconv_bitSizeError : Nat := 134
abbrev f_internal_strconv_ParseUint : Nat := 135
abbrev f_internal_stringslite_Clone : Nat := 136
abbrev f_errors_New : Nat := 137
abbrev f_internal_strconv_lower : Nat := 138
abbrev f_internal_strconv_underscoreOK : Nat := 139
abbrev f_runtime_boundsError_Error : Nat := 140
abbrev f_runtime_boundsError_RuntimeError : Nat := 141
abbrev f_runtime_errorString_Error : Nat := 142
abbrev f_runtime_errorString_RuntimeError : Nat := 143
abbrev f_runtime_plainError_Error : Nat := 144
abbrev f_runtime_plainError_RuntimeError : Nat := 145
abbrev f_runtime_errorAddressString_Error : Nat := 146
abbrev f_runtime_errorAddressString_RuntimeError : Nat := 147
abbrev f_runtime_TypeAssertionError_Error : Nat := 148
abbrev f_runtime_TypeAssertionError_RuntimeError : Nat := 149
abbrev f_runtime_PanicNilError_Error : Nat := 150
abbrev f_runtime_PanicNilError_RuntimeError : Nat := 151
abbrev f_internal_abi_Type_Align : Nat := 152
abbrev f_internal_runtime_maps_unhashableTypeError_Error : Nat := 153
abbrev f_internal_runtime_maps_unhashableTypeError_RuntimeError : Nat := 154
abbrev f_strings_Builder_Reset : Nat := 155
abbrev f_internal_strconv_Error_Error : Nat := 156
abbrev f_strconv_NumError_Error : Nat := 157
abbrev f_errors_errorString_Error : Nat := 158
abbrev f_internal_abi_Kind_String : Nat := 159
abbrev f_var_s_door_gosem_cut_vars_holds_initialisers_alone_see_the_manifest_s_row_cutvarsword_look_11_test_files_too : Nat := 160
abbrev f_var_s_door_internal_strconv_uint64pow10_is_laid_by_its_own_initialiser_plain_data_look_11 : Nat := 161
abbrev f_var_s_door_math_bits_deBruijn32tab_is_laid_by_its_own_initialiser_plain_data_look_11 : Nat := 162
abbrev f_var_s_door_math_bits_deBruijn64tab_is_laid_by_its_own_initialiser_plain_data_look_11 : Nat := 163
abbrev f_var_s_door_strconv_ErrRange_is_laid_by_its_own_call_of_errors_New_on_one_literal_look_11 : Nat := 164
abbrev f_var_s_door_strconv_ErrSyntax_is_laid_by_its_own_call_of_errors_New_on_one_literal_look_11 : Nat := 165
abbrev f_var_s_door_the_look_of_gosem_cut_vars_went_over_the_folder_that_the_caller_named_as_the_repository_s_root_look_11 : Nat := 166
abbrev f_var_s_door_unicode_utf8_acceptRanges_is_laid_by_its_own_initialiser_plain_data_look_11 : Nat := 167
abbrev f_var_s_door_unicode_utf8_first_is_laid_by_its_text_alone_pinned_1 : Nat := 168
abbrev f_gosem_cut_vars : Nat := 169
abbrev T_unit : Nat := 0
abbrev T_func : Nat := 1
abbrev T_int64 : Nat := 2
abbrev T_int : Nat := 3
abbrev T_bool : Nat := 4
abbrev T_uint8 : Nat := 5
abbrev T_abi_BoundsErrorCode : Nat := 6
abbrev T_struct_x_int64_y_int_signed_bool_code_abi_BoundsErrorCode : Nat := 7
abbrev T_runtime_boundsError : Nat := 8
abbrev T_string : Nat := 9
abbrev T_runtime_errorString : Nat := 10
abbrev T_runtime_plainError : Nat := 11
abbrev T_uintptr : Nat := 12
abbrev T_struct_msg_string_addr_uintptr : Nat := 13
abbrev T_runtime_errorAddressString : Nat := 14
abbrev T_p_runtime_TypeAssertionError : Nat := 15
abbrev T_p_runtime_PanicNilError : Nat := 16
abbrev T_p_abi_Type : Nat := 17
abbrev T_struct_typ_p_abi_Type : Nat := 18
abbrev T_maps_unhashableTypeError : Nat := 19
abbrev T_interface : Nat := 20
abbrev T_int32 : Nat := 21
abbrev T_struct_Name_string_Value_string_Domain_string_Path_string_Ha : Nat := 22
abbrev T_api_Header : Nat := 23
abbrev T_api_Errno : Nat := 24
abbrev T_api_Header_api_Errno : Nat := 25
abbrev T_func_string_api_Header_api_Errno : Nat := 26
abbrev T_sl_uint8 : Nat := 27
abbrev T_func_bool : Nat := 28
abbrev T_api_Header_int : Nat := 29
abbrev T_func_string_api_Header_int : Nat := 30
abbrev T_func_string_bool : Nat := 31
abbrev T_func_api_Header_string : Nat := 32
abbrev T_func_api_Header_bool : Nat := 33
abbrev T_uint16 : Nat := 34
abbrev T_func_string_uint16_bool : Nat := 35
abbrev T_arr4_string : Nat := 36
abbrev T_sl_string : Nat := 37
abbrev T_func_string_uint8_sl_string : Nat := 38
abbrev T_string_string_bool : Nat := 39
abbrev T_func_string_string_string_bool : Nat := 40
abbrev T_func_p_api_Header_string_string : Nat := 41
abbrev T_p_api_Header : Nat := 42
abbrev T_func_string_string : Nat := 43
abbrev T_func_string_int : Nat := 44
abbrev T_int64_bool : Nat := 45
abbrev T_func_string_int64_bool : Nat := 46
abbrev T_func_string_string_sl_string : Nat := 47
abbrev T_func_string_string_string_string_bool : Nat := 48
abbrev T_func_string_string_string : Nat := 49
abbrev T_func_string_string_bool : Nat := 50
abbrev T_func_arr4_string : Nat := 51
abbrev T_func_uint8_bool : Nat := 52
abbrev T_sl_int : Nat := 53
abbrev T_sl_int_bool : Nat := 54
abbrev T_func_string_sl_int_bool : Nat := 55
abbrev T_func_int_int_int_bool : Nat := 56
abbrev T_func_int_int_int_int64_bool : Nat := 57
abbrev T_func_bool_string : Nat := 58
abbrev T_func_int64_string : Nat := 59
abbrev T_func_int64_int_string : Nat := 60
abbrev T_func_sl_string_string_string : Nat := 61
abbrev T_func_string_string_int_int_sl_string : Nat := 62
abbrev T_arr3_int : Nat := 63
abbrev T_struct_time_bool_day_bool_month_bool_year_bool_secs_arr3_int : Nat := 64
abbrev T_date_found : Nat := 65
abbrev T_func_string : Nat := 66
abbrev T_string_bool : Nat := 67
abbrev T_func_string_string_string_bool_2 : Nat := 68
abbrev T_func_int_int_int : Nat := 69
abbrev T_func_int_int64 : Nat := 70
abbrev T_int_int_int_bool : Nat := 71
abbrev T_func_int64_int_int_int_bool : Nat := 72
abbrev T_func_int_int_string : Nat := 73
abbrev T_p_strings_Builder : Nat := 74
abbrev T_struct_addr_p_strings_Builder_buf_sl_uint8 : Nat := 75
abbrev T_strings_Builder : Nat := 76
abbrev T_func_int : Nat := 77
abbrev T_interface_Error_string : Nat := 78
abbrev T_error : Nat := 79
abbrev T_int_error : Nat := 80
abbrev T_func_string_int_error : Nat := 81
abbrev T_func_string_2 : Nat := 82
abbrev T_func_string_int_sl_string : Nat := 83
abbrev T_func_string_string_int : Nat := 84
abbrev T_func_string_uint8_string : Nat := 85
abbrev T_arr256_bool : Nat := 86
abbrev T_strings_asciiSet : Nat := 87
abbrev T_strings_asciiSet_bool : Nat := 88
abbrev T_func_string_strings_asciiSet_bool : Nat := 89
abbrev T_func_string_p_strings_asciiSet_string : Nat := 90
abbrev T_p_strings_asciiSet : Nat := 91
abbrev T_p_date_found : Nat := 92
abbrev T_arr3_int_bool : Nat := 93
abbrev T_func_string_arr3_int_bool : Nat := 94
abbrev T_int_string_bool : Nat := 95
abbrev T_func_string_int_int_int_string_bool : Nat := 96
abbrev T_func_int_bool : Nat := 97
abbrev T_func_int_string : Nat := 98
abbrev T_func_string_int_string : Nat := 99
abbrev T_arr24_uint8 : Nat := 100
abbrev T_uint64 : Nat := 101
abbrev T_func_uint64_int : Nat := 102
abbrev T_func_sl_uint8_uint64 : Nat := 103
abbrev T_sl_uint8_string : Nat := 104
abbrev T_func_sl_uint8_uint64_int_bool_bool_sl_uint8_string : Nat := 105
abbrev T_p_uint8 : Nat := 106
abbrev T_int32_int : Nat := 107
abbrev T_func_string_int32_int : Nat := 108
abbrev T_func_string_uint8_int : Nat := 109
abbrev T_func_int_int : Nat := 110
abbrev T_uint : Nat := 111
abbrev T_func_string_int32_bool : Nat := 112
abbrev T_arr12_int : Nat := 113
abbrev T_uint_uint : Nat := 114
abbrev T_func_uint_uint_uint_uint : Nat := 115
abbrev T_func_int_2 : Nat := 116
abbrev T_func_bool_int : Nat := 117
abbrev T_arr20_uint64 : Nat := 118
abbrev T_uint32 : Nat := 119
abbrev T_arr65_uint8 : Nat := 120
abbrev T_func_uint_int : Nat := 121
abbrev T_unsafe_Pointer : Nat := 122
abbrev T_func_unsafe_Pointer_unsafe_Pointer : Nat := 123
abbrev T_func_int_sl_uint8 : Nat := 124
abbrev T_uint32_uint32 : Nat := 125
abbrev T_func_string_uint32_uint32 : Nat := 126
abbrev T_func_string_int32_int_2 : Nat := 127
abbrev T_func_string_string_int_int_error_error : Nat := 128
abbrev T_func_uint32_uint32_uint32_uint32 : Nat := 129
abbrev T_uint64_uint64 : Nat := 130
abbrev T_func_uint64_uint64_uint64_uint64 : Nat := 131
abbrev T_func_uint32_int : Nat := 132
abbrev T_arr256_uint8 : Nat := 133
abbrev T_struct_lo_uint8_hi_uint8 : Nat := 134
abbrev T_utf8_acceptRange : Nat := 135
abbrev T_arr16_utf8_acceptRange : Nat := 136
abbrev T_func_int32_bool : Nat := 137
abbrev T_strconv_Error : Nat := 138
abbrev T_int64_error : Nat := 139
abbrev T_func_string_int_int_int64_error : Nat := 140
abbrev T_p_strconv_NumError : Nat := 141
abbrev T_func_string_string_p_strconv_NumError : Nat := 142
abbrev T_func_string_string_int_p_strconv_NumError : Nat := 143
abbrev T_arr32_uint8 : Nat := 144
abbrev T_arr64_uint8 : Nat := 145
abbrev T_uint64_error : Nat := 146
abbrev T_func_string_int_int_uint64_error : Nat := 147
abbrev T_struct_Func_string_Num_string_Err_error : Nat := 148
abbrev T_strconv_NumError : Nat := 149
abbrev T_func_string_error : Nat := 150
abbrev T_func_uint8_uint8 : Nat := 151
abbrev T_p_errors_errorString : Nat := 152
abbrev T_struct_s_string : Nat := 153
abbrev T_errors_errorString : Nat := 154
abbrev T_struct_interface_p_abi_Type_concrete_p_abi_Type_asserted_p_a : Nat := 155
abbrev T_runtime_TypeAssertionError : Nat := 156
abbrev T_arr0_p_runtime_PanicNilError : Nat := 157
abbrev T_struct_arr0_p_runtime_PanicNilError : Nat := 158
abbrev T_runtime_PanicNilError : Nat := 159
abbrev T_abi_TFlag : Nat := 160
abbrev T_abi_Kind : Nat := 161
abbrev T_func_unsafe_Pointer_unsafe_Pointer_bool : Nat := 162
abbrev T_abi_NameOff : Nat := 163
abbrev T_abi_TypeOff : Nat := 164
abbrev T_struct_Size_uintptr_PtrBytes_uintptr_Hash_uint32_TFlag_abi_T : Nat := 165
abbrev T_abi_Type : Nat := 166
theorem un_int64 : Tryz.prog.underlying T_int64 = some (.int .i64) := by kernel_rfl
theorem tf_int64 : TF Tryz.prog T_int64 1 8 (.int .i64 (0 : Int)) := TF.of (by kernel_rfl) (by kernel_rfl) false (by kernel_rfl) (.inr rfl)
theorem un_int : Tryz.prog.underlying T_int = some (.int .i64) := by kernel_rfl
theorem tf_int : TF Tryz.prog T_int 1 8 (.int .i64 (0 : Int)) := TF.of (by kernel_rfl) (by kernel_rfl) false (by kernel_rfl) (.inr rfl)
theorem un_bool : Tryz.prog.underlying T_bool = some (.bool) := by kernel_rfl
theorem tf_bool : TF Tryz.prog T_bool 1 1 (.bool false) := TF.of (by kernel_rfl) (by kernel_rfl) false (by kernel_rfl) (.inr rfl)
theorem un_uint8 : Tryz.prog.underlying T_uint8 = some (.int .u8) := by kernel_rfl
theorem tf_uint8 : TF Tryz.prog T_uint8 1 1 (.int .u8 (0 : Int)) := TF.of (by kernel_rfl) (by kernel_rfl) false (by kernel_rfl) (.inr rfl)
theorem un_abi_BoundsErrorCode : Tryz.prog.underlying T_abi_BoundsErrorCode = some (.int .u8) := by kernel_rfl
theorem tf_abi_BoundsErrorCode : TF Tryz.prog T_abi_BoundsErrorCode 1 1 (.int .u8 (0 : Int)) := TF.of (by kernel_rfl) (by kernel_rfl) false (by kernel_rfl) (.inr rfl)
theorem tf_struct_x_int64_y_int_signed_bool_code_abi_BoundsErrorCode : TF Tryz.prog T_struct_x_int64_y_int_signed_bool_code_abi_BoundsErrorCode 4 24 (.agg #[.int .i64 (0 : Int), .int .i64 (0 : Int), .bool false, .int .u8 (0 : Int)]) := TF.of (by kernel_rfl) (by kernel_rfl) true (by kernel_rfl) (.inl rfl)
theorem tf_runtime_boundsError : TF Tryz.prog T_runtime_boundsError 4 24 (.agg #[.int .i64 (0 : Int), .int .i64 (0 : Int), .bool false, .int .u8 (0 : Int)]) := TF.of (by kernel_rfl) (by kernel_rfl) true (by kernel_rfl) (.inl rfl)
theorem un_string : Tryz.prog.underlying T_string = some (.string) := by kernel_rfl
theorem tf_string : TF Tryz.prog T_string 1 16 (.string (mkS [])) := TF.of (by kernel_rfl) (by kernel_rfl) false (by kernel_rfl) (.inr rfl)
theorem un_runtime_errorString : Tryz.prog.underlying T_runtime_errorString = some (.string) := by kernel_rfl
theorem tf_runtime_errorString : TF Tryz.prog T_runtime_errorString 1 16 (.string (mkS [])) := TF.of (by kernel_rfl) (by kernel_rfl) false (by kernel_rfl) (.inr rfl)
theorem un_runtime_plainError : Tryz.prog.underlying T_runtime_plainError = some (.string) := by kernel_rfl
theorem tf_runtime_plainError : TF Tryz.prog T_runtime_plainError 1 16 (.string (mkS [])) := TF.of (by kernel_rfl) (by kernel_rfl) false (by kernel_rfl) (.inr rfl)
theorem un_uintptr : Tryz.prog.underlying T_uintptr = some (.int .u64) := by kernel_rfl
theorem tf_uintptr : TF Tryz.prog T_uintptr 1 8 (.int .u64 (0 : Int)) := TF.of (by kernel_rfl) (by kernel_rfl) false (by kernel_rfl) (.inr rfl)
theorem tf_struct_msg_string_addr_uintptr : TF Tryz.prog T_struct_msg_string_addr_uintptr 2 24 (.agg #[.string (mkS []), .int .u64 (0 : Int)]) := TF.of (by kernel_rfl) (by kernel_rfl) true (by kernel_rfl) (.inl rfl)
theorem tf_runtime_errorAddressString : TF Tryz.prog T_runtime_errorAddressString 2 24 (.agg #[.string (mkS []), .int .u64 (0 : Int)]) := TF.of (by kernel_rfl) (by kernel_rfl) true (by kernel_rfl) (.inl rfl)
theorem un_p_runtime_TypeAssertionError : Tryz.prog.underlying T_p_runtime_TypeAssertionError = some (.pointer T_runtime_TypeAssertionError) := by kernel_rfl
theorem tf_p_runtime_TypeAssertionError : TF Tryz.prog T_p_runtime_TypeAssertionError 1 8 (.pointer none) := TF.of (by kernel_rfl) (by kernel_rfl) false (by kernel_rfl) (.inr rfl)
theorem un_p_runtime_PanicNilError : Tryz.prog.underlying T_p_runtime_PanicNilError = some (.pointer T_runtime_PanicNilError) := by kernel_rfl
theorem tf_p_runtime_PanicNilError : TF Tryz.prog T_p_runtime_PanicNilError 1 8 (.pointer none) := TF.of (by kernel_rfl) (by kernel_rfl) false (by kernel_rfl) (.inr rfl)
theorem un_p_abi_Type : Tryz.prog.underlying T_p_abi_Type = some (.pointer T_abi_Type) := by kernel_rfl
theorem tf_p_abi_Type : TF Tryz.prog T_p_abi_Type 1 8 (.pointer none) := TF.of (by kernel_rfl) (by kernel_rfl) false (by kernel_rfl) (.inr rfl)
theorem tf_struct_typ_p_abi_Type : TF Tryz.prog T_struct_typ_p_abi_Type 1 8 (.agg #[.pointer none]) := TF.of (by kernel_rfl) (by kernel_rfl) true (by kernel_rfl) (.inl rfl)
theorem tf_maps_unhashableTypeError : TF Tryz.prog T_maps_unhashableTypeError 1 8 (.agg #[.pointer none]) := TF.of (by kernel_rfl) (by kernel_rfl) true (by kernel_rfl) (.inl rfl)
theorem tf_interface : TF Tryz.prog T_interface 1 16 .nilIface := TF.of (by kernel_rfl) (by kernel_rfl) false (by kernel_rfl) (.inr rfl)
theorem un_int32 : Tryz.prog.underlying T_int32 = some (.int .i32) := by kernel_rfl
theorem tf_int32 : TF Tryz.prog T_int32 1 4 (.int .i32 (0 : Int)) := TF.of (by kernel_rfl) (by kernel_rfl) false (by kernel_rfl) (.inr rfl)
theorem tf_struct_Name_string_Value_string_Domain_string_Path_string_Ha : TF Tryz.prog T_struct_Name_string_Value_string_Domain_string_Path_string_Ha 11 112 (.agg #[.string (mkS []), .string (mkS []), .string (mkS []), .string (mkS []), .bool false, .int .i64 (0 : Int), .bool false, .int .i64 (0 : Int), .bool false, .bool false, .int .i64 (0 : Int)]) := TF.of (by kernel_rfl) (by kernel_rfl) true (by kernel_rfl) (.inl rfl)
theorem tf_api_Header : TF Tryz.prog T_api_Header 11 112 (.agg #[.string (mkS []), .string (mkS []), .string (mkS []), .string (mkS []), .bool false, .int .i64 (0 : Int), .bool false, .int .i64 (0 : Int), .bool false, .bool false, .int .i64 (0 : Int)]) := TF.of (by kernel_rfl) (by kernel_rfl) true (by kernel_rfl) (.inl rfl)
theorem un_api_Errno : Tryz.prog.underlying T_api_Errno = some (.int .i64) := by kernel_rfl
theorem tf_api_Errno : TF Tryz.prog T_api_Errno 1 8 (.int .i64 (0 : Int)) := TF.of (by kernel_rfl) (by kernel_rfl) false (by kernel_rfl) (.inr rfl)
theorem un_sl_uint8 : Tryz.prog.underlying T_sl_uint8 = some (.slice T_uint8) := by kernel_rfl
theorem tf_sl_uint8 : TF Tryz.prog T_sl_uint8 1 24 (.slice none 0 0) := TF.of (by kernel_rfl) (by kernel_rfl) false (by kernel_rfl) (.inr rfl)
theorem un_uint16 : Tryz.prog.underlying T_uint16 = some (.int .u16) := by kernel_rfl
theorem tf_uint16 : TF Tryz.prog T_uint16 1 2 (.int .u16 (0 : Int)) := TF.of (by kernel_rfl) (by kernel_rfl) false (by kernel_rfl) (.inr rfl)
theorem un_arr4_string : Tryz.prog.underlying T_arr4_string = some (.array 4 T_string) := by kernel_rfl
theorem tf_arr4_string : TF Tryz.prog T_arr4_string 4 64 (.agg #[.string (mkS []), .string (mkS []), .string (mkS []), .string (mkS [])]) := TF.of (by kernel_rfl) (by kernel_rfl) true (by kernel_rfl) (.inl rfl)
theorem un_sl_string : Tryz.prog.underlying T_sl_string = some (.slice T_string) := by kernel_rfl
theorem tf_sl_string : TF Tryz.prog T_sl_string 1 24 (.slice none 0 0) := TF.of (by kernel_rfl) (by kernel_rfl) false (by kernel_rfl) (.inr rfl)
theorem un_p_api_Header : Tryz.prog.underlying T_p_api_Header = some (.pointer T_api_Header) := by kernel_rfl
theorem tf_p_api_Header : TF Tryz.prog T_p_api_Header 1 8 (.pointer none) := TF.of (by kernel_rfl) (by kernel_rfl) false (by kernel_rfl) (.inr rfl)
theorem un_sl_int : Tryz.prog.underlying T_sl_int = some (.slice T_int) := by kernel_rfl
theorem tf_sl_int : TF Tryz.prog T_sl_int 1 24 (.slice none 0 0) := TF.of (by kernel_rfl) (by kernel_rfl) false (by kernel_rfl) (.inr rfl)
theorem un_arr3_int : Tryz.prog.underlying T_arr3_int = some (.array 3 T_int) := by kernel_rfl
theorem tf_arr3_int : TF Tryz.prog T_arr3_int 3 24 (.agg #[.int .i64 (0 : Int), .int .i64 (0 : Int), .int .i64 (0 : Int)]) := TF.of (by kernel_rfl) (by kernel_rfl) true (by kernel_rfl) (.inl rfl)
theorem tf_struct_time_bool_day_bool_month_bool_year_bool_secs_arr3_int : TF Tryz.prog T_struct_time_bool_day_bool_month_bool_year_bool_secs_arr3_int 10 56 (.agg #[.bool false, .bool false, .bool false, .bool false, .int .i64 (0 : Int), .int .i64 (0 : Int), .int .i64 (0 : Int), .int .i64 (0 : Int), .int .i64 (0 : Int), .int .i64 (0 : Int)]) := TF.of (by kernel_rfl) (by kernel_rfl) true (by kernel_rfl) (.inl rfl)
theorem tf_date_found : TF Tryz.prog T_date_found 10 56 (.agg #[.bool false, .bool false, .bool false, .bool false, .int .i64 (0 : Int), .int .i64 (0 : Int), .int .i64 (0 : Int), .int .i64 (0 : Int), .int .i64 (0 : Int), .int .i64 (0 : Int)]) := TF.of (by kernel_rfl) (by kernel_rfl) true (by kernel_rfl) (.inl rfl)
theorem un_p_strings_Builder : Tryz.prog.underlying T_p_strings_Builder = some (.pointer T_strings_Builder) := by kernel_rfl
theorem tf_p_strings_Builder : TF Tryz.prog T_p_strings_Builder 1 8 (.pointer none) := TF.of (by kernel_rfl) (by kernel_rfl) false (by kernel_rfl) (.inr rfl)
theorem tf_struct_addr_p_strings_Builder_buf_sl_uint8 : TF Tryz.prog T_struct_addr_p_strings_Builder_buf_sl_uint8 2 32 (.agg #[.pointer none, .slice none 0 0]) := TF.of (by kernel_rfl) (by kernel_rfl) true (by kernel_rfl) (.inl rfl)
theorem tf_strings_Builder : TF Tryz.prog T_strings_Builder 2 32 (.agg #[.pointer none, .slice none 0 0]) := TF.of (by kernel_rfl) (by kernel_rfl) true (by kernel_rfl) (.inl rfl)
theorem tf_interface_Error_string : TF Tryz.prog T_interface_Error_string 1 16 .nilIface := TF.of (by kernel_rfl) (by kernel_rfl) false (by kernel_rfl) (.inr rfl)
theorem tf_error : TF Tryz.prog T_error 1 16 .nilIface := TF.of (by kernel_rfl) (by kernel_rfl) false (by kernel_rfl) (.inr rfl)
theorem un_arr256_bool : Tryz.prog.underlying T_arr256_bool = some (.array 256 T_bool) := by kernel_rfl
theorem un_strings_asciiSet : Tryz.prog.underlying T_strings_asciiSet = some (.array 256 T_bool) := by kernel_rfl
theorem un_p_strings_asciiSet : Tryz.prog.underlying T_p_strings_asciiSet = some (.pointer T_strings_asciiSet) := by kernel_rfl
theorem tf_p_strings_asciiSet : TF Tryz.prog T_p_strings_asciiSet 1 8 (.pointer none) := TF.of (by kernel_rfl) (by kernel_rfl) false (by kernel_rfl) (.inr rfl)
theorem un_p_date_found : Tryz.prog.underlying T_p_date_found = some (.pointer T_date_found) := by kernel_rfl
theorem tf_p_date_found : TF Tryz.prog T_p_date_found 1 8 (.pointer none) := TF.of (by kernel_rfl) (by kernel_rfl) false (by kernel_rfl) (.inr rfl)
theorem un_arr24_uint8 : Tryz.prog.underlying T_arr24_uint8 = some (.array 24 T_uint8) := by kernel_rfl
theorem tf_arr24_uint8 : TF Tryz.prog T_arr24_uint8 24 24 (.agg #[.int .u8 (0 : Int), .int .u8 (0 : Int), .int .u8 (0 : Int), .int .u8 (0 : Int), .int .u8 (0 : Int), .int .u8 (0 : Int), .int .u8 (0 : Int), .int .u8 (0 : Int), .int .u8 (0 : Int), .int .u8 (0 : Int), .int .u8 (0 : Int), .int .u8 (0 : Int), .int .u8 (0 : Int), .int .u8 (0 : Int), .int .u8 (0 : Int), .int .u8 (0 : Int), .int .u8 (0 : Int), .int .u8 (0 : Int), .int .u8 (0 : Int), .int .u8 (0 : Int), .int .u8 (0 : Int), .int .u8 (0 : Int), .int .u8 (0 : Int), .int .u8 (0 : Int)]) := TF.of (by kernel_rfl) (by kernel_rfl) true (by kernel_rfl) (.inl rfl)
theorem un_uint64 : Tryz.prog.underlying T_uint64 = some (.int .u64) := by kernel_rfl
theorem tf_uint64 : TF Tryz.prog T_uint64 1 8 (.int .u64 (0 : Int)) := TF.of (by kernel_rfl) (by kernel_rfl) false (by kernel_rfl) (.inr rfl)
theorem un_p_uint8 : Tryz.prog.underlying T_p_uint8 = some (.pointer T_uint8) := by kernel_rfl
theorem tf_p_uint8 : TF Tryz.prog T_p_uint8 1 8 (.pointer none) := TF.of (by kernel_rfl) (by kernel_rfl) false (by kernel_rfl) (.inr rfl)
theorem un_uint : Tryz.prog.underlying T_uint = some (.int .u64) := by kernel_rfl
theorem tf_uint : TF Tryz.prog T_uint 1 8 (.int .u64 (0 : Int)) := TF.of (by kernel_rfl) (by kernel_rfl) false (by kernel_rfl) (.inr rfl)
theorem un_arr12_int : Tryz.prog.underlying T_arr12_int = some (.array 12 T_int) := by kernel_rfl
theorem tf_arr12_int : TF Tryz.prog T_arr12_int 12 96 (.agg #[.int .i64 (0 : Int), .int .i64 (0 : Int), .int .i64 (0 : Int), .int .i64 (0 : Int), .int .i64 (0 : Int), .int .i64 (0 : Int), .int .i64 (0 : Int), .int .i64 (0 : Int), .int .i64 (0 : Int), .int .i64 (0 : Int), .int .i64 (0 : Int), .int .i64 (0 : Int)]) := TF.of (by kernel_rfl) (by kernel_rfl) true (by kernel_rfl) (.inl rfl)
theorem un_arr20_uint64 : Tryz.prog.underlying T_arr20_uint64 = some (.array 20 T_uint64) := by kernel_rfl
theorem tf_arr20_uint64 : TF Tryz.prog T_arr20_uint64 20 160 (.agg #[.int .u64 (0 : Int), .int .u64 (0 : Int), .int .u64 (0 : Int), .int .u64 (0 : Int), .int .u64 (0 : Int), .int .u64 (0 : Int), .int .u64 (0 : Int), .int .u64 (0 : Int), .int .u64 (0 : Int), .int .u64 (0 : Int), .int .u64 (0 : Int), .int .u64 (0 : Int), .int .u64 (0 : Int), .int .u64 (0 : Int), .int .u64 (0 : Int), .int .u64 (0 : Int), .int .u64 (0 : Int), .int .u64 (0 : Int), .int .u64 (0 : Int), .int .u64 (0 : Int)]) := TF.of (by kernel_rfl) (by kernel_rfl) true (by kernel_rfl) (.inl rfl)
theorem un_uint32 : Tryz.prog.underlying T_uint32 = some (.int .u32) := by kernel_rfl
theorem tf_uint32 : TF Tryz.prog T_uint32 1 4 (.int .u32 (0 : Int)) := TF.of (by kernel_rfl) (by kernel_rfl) false (by kernel_rfl) (.inr rfl)
theorem un_arr65_uint8 : Tryz.prog.underlying T_arr65_uint8 = some (.array 65 T_uint8) := by kernel_rfl
theorem un_arr256_uint8 : Tryz.prog.underlying T_arr256_uint8 = some (.array 256 T_uint8) := by kernel_rfl
theorem tf_struct_lo_uint8_hi_uint8 : TF Tryz.prog T_struct_lo_uint8_hi_uint8 2 2 (.agg #[.int .u8 (0 : Int), .int .u8 (0 : Int)]) := TF.of (by kernel_rfl) (by kernel_rfl) true (by kernel_rfl) (.inl rfl)
theorem tf_utf8_acceptRange : TF Tryz.prog T_utf8_acceptRange 2 2 (.agg #[.int .u8 (0 : Int), .int .u8 (0 : Int)]) := TF.of (by kernel_rfl) (by kernel_rfl) true (by kernel_rfl) (.inl rfl)
theorem un_arr16_utf8_acceptRange : Tryz.prog.underlying T_arr16_utf8_acceptRange = some (.array 16 T_utf8_acceptRange) := by kernel_rfl
theorem tf_arr16_utf8_acceptRange : TF Tryz.prog T_arr16_utf8_acceptRange 32 32 (.agg #[.int .u8 (0 : Int), .int .u8 (0 : Int), .int .u8 (0 : Int), .int .u8 (0 : Int), .int .u8 (0 : Int), .int .u8 (0 : Int), .int .u8 (0 : Int), .int .u8 (0 : Int), .int .u8 (0 : Int), .int .u8 (0 : Int), .int .u8 (0 : Int), .int .u8 (0 : Int), .int .u8 (0 : Int), .int .u8 (0 : Int), .int .u8 (0 : Int), .int .u8 (0 : Int), .int .u8 (0 : Int), .int .u8 (0 : Int), .int .u8 (0 : Int), .int .u8 (0 : Int), .int .u8 (0 : Int), .int .u8 (0 : Int), .int .u8 (0 : Int), .int .u8 (0 : Int), .int .u8 (0 : Int), .int .u8 (0 : Int), .int .u8 (0 : Int), .int .u8 (0 : Int), .int .u8 (0 : Int), .int .u8 (0 : Int), .int .u8 (0 : Int), .int .u8 (0 : Int)]) := TF.of (by kernel_rfl) (by kernel_rfl) true (by kernel_rfl) (.inl rfl)
theorem un_strconv_Error : Tryz.prog.underlying T_strconv_Error = some (.int .i64) := by kernel_rfl
theorem tf_strconv_Error : TF Tryz.prog T_strconv_Error 1 8 (.int .i64 (0 : Int)) := TF.of (by kernel_rfl) (by kernel_rfl) false (by kernel_rfl) (.inr rfl)
theorem un_p_strconv_NumError : Tryz.prog.underlying T_p_strconv_NumError = some (.pointer T_strconv_NumError) := by kernel_rfl
theorem tf_p_strconv_NumError : TF Tryz.prog T_p_strconv_NumError 1 8 (.pointer none) := TF.of (by kernel_rfl) (by kernel_rfl) false (by kernel_rfl) (.inr rfl)
theorem un_arr32_uint8 : Tryz.prog.underlying T_arr32_uint8 = some (.array 32 T_uint8) := by kernel_rfl
theorem tf_arr32_uint8 : TF Tryz.prog T_arr32_uint8 32 32 (.agg #[.int .u8 (0 : Int), .int .u8 (0 : Int), .int .u8 (0 : Int), .int .u8 (0 : Int), .int .u8 (0 : Int), .int .u8 (0 : Int), .int .u8 (0 : Int), .int .u8 (0 : Int), .int .u8 (0 : Int), .int .u8 (0 : Int), .int .u8 (0 : Int), .int .u8 (0 : Int), .int .u8 (0 : Int), .int .u8 (0 : Int), .int .u8 (0 : Int), .int .u8 (0 : Int), .int .u8 (0 : Int), .int .u8 (0 : Int), .int .u8 (0 : Int), .int .u8 (0 : Int), .int .u8 (0 : Int), .int .u8 (0 : Int), .int .u8 (0 : Int), .int .u8 (0 : Int), .int .u8 (0 : Int), .int .u8 (0 : Int), .int .u8 (0 : Int), .int .u8 (0 : Int), .int .u8 (0 : Int), .int .u8 (0 : Int), .int .u8 (0 : Int), .int .u8 (0 : Int)]) := TF.of (by kernel_rfl) (by kernel_rfl) true (by kernel_rfl) (.inl rfl)
theorem un_arr64_uint8 : Tryz.prog.underlying T_arr64_uint8 = some (.array 64 T_uint8) := by kernel_rfl
theorem tf_arr64_uint8 : TF Tryz.prog T_arr64_uint8 64 64 (.agg #[.int .u8 (0 : Int), .int .u8 (0 : Int), .int .u8 (0 : Int), .int .u8 (0 : Int), .int .u8 (0 : Int), .int .u8 (0 : Int), .int .u8 (0 : Int), .int .u8 (0 : Int), .int .u8 (0 : Int), .int .u8 (0 : Int), .int .u8 (0 : Int), .int .u8 (0 : Int), .int .u8 (0 : Int), .int .u8 (0 : Int), .int .u8 (0 : Int), .int .u8 (0 : Int), .int .u8 (0 : Int), .int .u8 (0 : Int), .int .u8 (0 : Int), .int .u8 (0 : Int), .int .u8 (0 : Int), .int .u8 (0 : Int), .int .u8 (0 : Int), .int .u8 (0 : Int), .int .u8 (0 : Int), .int .u8 (0 : Int), .int .u8 (0 : Int), .int .u8 (0 : Int), .int .u8 (0 : Int), .int .u8 (0 : Int), .int .u8 (0 : Int), .int .u8 (0 : Int), .int .u8 (0 : Int), .int .u8 (0 : Int), .int .u8 (0 : Int), .int .u8 (0 : Int), .int .u8 (0 : Int), .int .u8 (0 : Int), .int .u8 (0 : Int), .int .u8 (0 : Int), .int .u8 (0 : Int), .int .u8 (0 : Int), .int .u8 (0 : Int), .int .u8 (0 : Int), .int .u8 (0 : Int), .int .u8 (0 : Int), .int .u8 (0 : Int), .int .u8 (0 : Int), .int .u8 (0 : Int), .int .u8 (0 : Int), .int .u8 (0 : Int), .int .u8 (0 : Int), .int .u8 (0 : Int), .int .u8 (0 : Int), .int .u8 (0 : Int), .int .u8 (0 : Int), .int .u8 (0 : Int), .int .u8 (0 : Int), .int .u8 (0 : Int), .int .u8 (0 : Int), .int .u8 (0 : Int), .int .u8 (0 : Int), .int .u8 (0 : Int), .int .u8 (0 : Int)]) := TF.of (by kernel_rfl) (by kernel_rfl) true (by kernel_rfl) (.inl rfl)
theorem tf_struct_Func_string_Num_string_Err_error : TF Tryz.prog T_struct_Func_string_Num_string_Err_error 3 48 (.agg #[.string (mkS []), .string (mkS []), .nilIface]) := TF.of (by kernel_rfl) (by kernel_rfl) true (by kernel_rfl) (.inl rfl)
theorem tf_strconv_NumError : TF Tryz.prog T_strconv_NumError 3 48 (.agg #[.string (mkS []), .string (mkS []), .nilIface]) := TF.of (by kernel_rfl) (by kernel_rfl) true (by kernel_rfl) (.inl rfl)
theorem un_p_errors_errorString : Tryz.prog.underlying T_p_errors_errorString = some (.pointer T_errors_errorString) := by kernel_rfl
theorem tf_p_errors_errorString : TF Tryz.prog T_p_errors_errorString 1 8 (.pointer none) := TF.of (by kernel_rfl) (by kernel_rfl) false (by kernel_rfl) (.inr rfl)
theorem tf_struct_s_string : TF Tryz.prog T_struct_s_string 1 16 (.agg #[.string (mkS [])]) := TF.of (by kernel_rfl) (by kernel_rfl) true (by kernel_rfl) (.inl rfl)
theorem tf_errors_errorString : TF Tryz.prog T_errors_errorString 1 16 (.agg #[.string (mkS [])]) := TF.of (by kernel_rfl) (by kernel_rfl) true (by kernel_rfl) (.inl rfl)
theorem tf_struct_interface_p_abi_Type_concrete_p_abi_Type_asserted_p_a : TF Tryz.prog T_struct_interface_p_abi_Type_concrete_p_abi_Type_asserted_p_a 4 40 (.agg #[.pointer none, .pointer none, .pointer none, .string (mkS [])]) := TF.of (by kernel_rfl) (by kernel_rfl) true (by kernel_rfl) (.inl rfl)
theorem tf_runtime_TypeAssertionError : TF Tryz.prog T_runtime_TypeAssertionError 4 40 (.agg #[.pointer none, .pointer none, .pointer none, .string (mkS [])]) := TF.of (by kernel_rfl) (by kernel_rfl) true (by kernel_rfl) (.inl rfl)
theorem un_arr0_p_runtime_PanicNilError : Tryz.prog.underlying T_arr0_p_runtime_PanicNilError = some (.array 0 T_p_runtime_PanicNilError) := by kernel_rfl
theorem un_abi_TFlag : Tryz.prog.underlying T_abi_TFlag = some (.int .u8) := by kernel_rfl
theorem tf_abi_TFlag : TF Tryz.prog T_abi_TFlag 1 1 (.int .u8 (0 : Int)) := TF.of (by kernel_rfl) (by kernel_rfl) false (by kernel_rfl) (.inr rfl)
theorem un_abi_Kind : Tryz.prog.underlying T_abi_Kind = some (.int .u8) := by kernel_rfl
theorem tf_abi_Kind : TF Tryz.prog T_abi_Kind 1 1 (.int .u8 (0 : Int)) := TF.of (by kernel_rfl) (by kernel_rfl) false (by kernel_rfl) (.inr rfl)
theorem un_abi_NameOff : Tryz.prog.underlying T_abi_NameOff = some (.int .i32) := by kernel_rfl
theorem tf_abi_NameOff : TF Tryz.prog T_abi_NameOff 1 4 (.int .i32 (0 : Int)) := TF.of (by kernel_rfl) (by kernel_rfl) false (by kernel_rfl) (.inr rfl)
theorem un_abi_TypeOff : Tryz.prog.underlying T_abi_TypeOff = some (.int .i32) := by kernel_rfl
theorem tf_abi_TypeOff : TF Tryz.prog T_abi_TypeOff 1 4 (.int .i32 (0 : Int)) := TF.of (by kernel_rfl) (by kernel_rfl) false (by kernel_rfl) (.inr rfl)
theorem tf_struct_Size_uintptr_PtrBytes_uintptr_Hash_uint32_TFlag_abi_T : TF Tryz.prog T_struct_Size_uintptr_PtrBytes_uintptr_Hash_uint32_TFlag_abi_T 11 48 (.agg #[.int .u64 (0 : Int), .int .u64 (0 : Int), .int .u32 (0 : Int), .int .u8 (0 : Int), .int .u8 (0 : Int), .int .u8 (0 : Int), .int .u8 (0 : Int), .nilFunc, .pointer none, .int .i32 (0 : Int), .int .i32 (0 : Int)]) := TF.of (by kernel_rfl) (by kernel_rfl) true (by kernel_rfl) (.inl rfl)
theorem tf_abi_Type : TF Tryz.prog T_abi_Type 11 48 (.agg #[.int .u64 (0 : Int), .int .u64 (0 : Int), .int .u32 (0 : Int), .int .u8 (0 : Int), .int .u8 (0 : Int), .int .u8 (0 : Int), .int .u8 (0 : Int), .nilFunc, .pointer none, .int .i32 (0 : Int), .int .i32 (0 : Int)]) := TF.of (by kernel_rfl) (by kernel_rfl) true (by kernel_rfl) (.inl rfl)
end Go.Proofs.YtmlcilfcaogdcaaGreatDoor
