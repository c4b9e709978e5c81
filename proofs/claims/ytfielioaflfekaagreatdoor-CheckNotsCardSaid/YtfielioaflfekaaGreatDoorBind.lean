/- Each function of D's list is the program's function of that number: D's calls are the model's. No condition. -/
import Derived.Test.YtfielioaflfekaaGreatDoorRows
import Derived.Test.YtfielioaflfekaaGreatDoorP
import Derived.Test.YtfielioaflfekaaGreatDoorBuilder
import Derived.KernelRfl
namespace Go.Proofs.YtfielioaflfekaaGreatDoor.bind
open Go Dk Dk.K
variable [Mx]
theorem c_sibyllaw04_CheckNots : compFn Tryz.prog (drawOf Tryz.prog Tryz.f3.ntmps (plans [(9, [0, 1, 2, 3, 4, 5, 6, 7, 8, 9, 10, 11, 12, 13, 14]), (10, [0, 1, 2, 3, 4, 5, 6, 7, 8, 9, 10, 11, 12, 13, 14, 15, 16, 17, 18, 19]), (13, [0, 1, 2, 3, 4, 5, 6, 7, 8, 9, 10, 11, 12, 13, 14]), (15, [0, 1, 2, 3, 4, 5, 6, 7, 8, 9, 10, 12, 11, 13, 14, 15, 16, 17, 18, 19, 20, 21, 22, 23, 24, 25, 26, 27, 28, 29, 30, 31, 32, 33, 34, 35, 36, 37, 38, 39, 40, 41, 42, 43, 44, 45, 46, 47, 48, 49, 50, 51, 52, 53, 54, 55, 56, 57])])) [[7, 8, 9, 10, 11, 12]] false true Tryz.f3 = some { d_sibyllaw04_CheckNots with sha := false } := by kernel_rfl
theorem c_sibyllaw04_awake : compFn Tryz.prog (drawOf Tryz.prog Tryz.f4.ntmps (plans [(3, [0, 1, 2, 3, 4, 5, 6, 7, 8, 9, 10, 11, 12, 13, 14, 15, 16, 17, 18, 19, 20, 21, 22, 23, 24, 25, 26, 27, 28, 29, 30, 31])])) [] false true Tryz.f4 = some { d_sibyllaw04_awake with sha := false } := by kernel_rfl
theorem c_check_Check : compFn Tryz.prog (drawOf Tryz.prog Tryz.f5.ntmps (plans [])) [[3, 14, 15, 16]] false false Tryz.f5 = some { d_check_Check with sha := false } := by kernel_rfl
theorem c_check_Place : compFn Tryz.prog (drawOf Tryz.prog Tryz.f6.ntmps (plans [(3, [0, 2, 1, 3, 4])])) [] false false Tryz.f6 = some { d_check_Place with sha := false } := by kernel_rfl
theorem c_check_Rules : compFn Tryz.prog (drawOf Tryz.prog Tryz.f7.ntmps (plans [(10, [0, 1, 2, 3, 4, 5, 6, 7, 8, 9, 10, 12, 13, 14, 11, 15, 16, 17, 18, 19, 20])])) [[3, 4, 5, 20, 21, 22]] false false Tryz.f7 = some { d_check_Rules with sha := false } := by kernel_rfl
theorem c_query_Parse : compCatchM Tryz.prog (plans [(3, [0, 1, 2, 3, 4, 5])]) (isMay [24, 40, 42, 43, 44, 62, 63, 78, 79, 87, 94]) 57 ⟨23, [], [(.t 2), (.t 3), (.t 4)], 9999⟩ [] false Tryz.f8 = some d_query_Parse := by kernel_rfl
theorem c_check_Check_1 : compFn Tryz.prog (drawOf Tryz.prog Tryz.f9.ntmps (plans [])) [] false false Tryz.f9 = some { d_check_Check_1 with sha := false } := by kernel_rfl
theorem c_query_Print : compFn Tryz.prog (drawOf Tryz.prog Tryz.f10.ntmps (plans [(21, [0, 1, 2, 6, 7, 8, 9, 10, 13, 14, 3, 4, 5, 11, 12, 15, 16, 17])])) [[1, 3, 4, 13, 14, 15], [1, 3, 4, 40, 41, 42]] false false Tryz.f10 = some { d_query_Print with sha := false } := by kernel_rfl
theorem c_check_Check_2 : compFn Tryz.prog (drawOf Tryz.prog Tryz.f11.ntmps (plans [])) [] false false Tryz.f11 = some { d_check_Check_2 with sha := false } := by kernel_rfl
theorem c_check_limits : compFn Tryz.prog (drawOf Tryz.prog Tryz.f12.ntmps (plans [])) [] false false Tryz.f12 = some { d_check_limits with sha := false } := by kernel_rfl
theorem c_check_Check_3 : compFn Tryz.prog (drawOf Tryz.prog Tryz.f13.ntmps (plans [])) [] false false Tryz.f13 = some { d_check_Check_3 with sha := false } := by kernel_rfl
theorem c_check_known : compFn Tryz.prog (drawOf Tryz.prog Tryz.f14.ntmps (plans [])) [[1, 3, 13, 14, 15], [1, 3, 13, 14, 15, 20, 21, 22]] false false Tryz.f14 = some { d_check_known with sha := false } := by kernel_rfl
theorem c_check_Check_4 : compFn Tryz.prog (drawOf Tryz.prog Tryz.f15.ntmps (plans [])) [] false false Tryz.f15 = some { d_check_Check_4 with sha := false } := by kernel_rfl
theorem c_check_placed : compFn Tryz.prog (drawOf Tryz.prog Tryz.f16.ntmps (plans [])) [[1, 3, 15, 16, 17], [1, 3, 42, 43, 44], [1, 3, 8, 9, 42, 43, 44, 60, 61, 62]] false false Tryz.f16 = some { d_check_placed with sha := false } := by kernel_rfl
theorem c_check_last : compFn Tryz.prog (drawOf Tryz.prog Tryz.f17.ntmps (plans [])) [[0, 5, 9, 10, 11]] false false Tryz.f17 = some { d_check_last with sha := false } := by kernel_rfl
theorem c_check_places : compFn Tryz.prog (drawOf Tryz.prog Tryz.f18.ntmps (plans [])) [[3, 8, 9, 10]] false false Tryz.f18 = some { d_check_places with sha := false } := by kernel_rfl
theorem c_check_Rules_1 : compFn Tryz.prog (drawOf Tryz.prog Tryz.f19.ntmps (plans [(6, [0, 1, 2, 3, 4, 5, 6, 7, 8, 9, 10, 11])])) [[1, 4, 9, 10]] false false Tryz.f19 = some { d_check_Rules_1 with sha := false } := by kernel_rfl
theorem c_slices_Clone : compFn Tryz.prog (drawOf Tryz.prog Tryz.f20.ntmps (plans [])) [] false false Tryz.f20 = some { d_slices_Clone with sha := false } := by kernel_rfl
theorem c_check_names : compFn Tryz.prog (drawOf Tryz.prog Tryz.f21.ntmps (plans [])) [] false false Tryz.f21 = some { d_check_names with sha := false } := by kernel_rfl
theorem c_lex_Lex : compFn Tryz.prog (drawOf Tryz.prog Tryz.f22.ntmps (plans [(6, [0, 1, 2, 3, 4]), (10, [0, 1, 2, 3]), (11, [0, 1, 2, 3, 4, 5])])) [[1, 2, 3, 4, 5, 6]] false false Tryz.f22 = some { d_lex_Lex with sha := false } := by kernel_rfl
theorem c_Parse1_e : compEnd Tryz.prog (drawOf Tryz.prog Tryz.f23.ntmps (plans [(2, [0, 1, 2, 3, 4, 5, 6, 7])])) [] Tryz.f23 = some d_Parse1_e := by kernel_rfl
theorem c_Parse1_p : compPan Tryz.prog (drawOf Tryz.prog Tryz.f23.ntmps (plans [(2, [0, 1, 2, 3, 4, 5, 6, 7])])) [] Tryz.f23 = some d_Parse1_p := by kernel_rfl
theorem c_query_parser_query : compMay Tryz.prog (plans [(5, [0, 1, 2, 3, 4, 5, 6, 7]), (9, [0, 1, 2, 3, 4, 5, 6, 7]), (14, [0, 1, 2, 3, 4, 5, 6, 7, 8, 9, 10, 11, 12, 13])]) (isMay [24, 40, 42, 43, 44, 62, 63, 78, 79, 87, 94]) 57 [[0, 2, 3], [0, 2, 4]] Tryz.f24 = some d_query_parser_query := by kernel_rfl
theorem c_query_printable : compFn Tryz.prog (drawOf Tryz.prog Tryz.f25.ntmps (plans [])) [[1, 3, 18, 19, 20], [3, 44, 45, 46]] false false Tryz.f25 = some { d_query_printable with sha := false } := by kernel_rfl
theorem c_strings_Builder_WriteString : BwIs Tryz.prog 26 Globs.bld Globs.byt := bld.write
theorem c_query_text : compFn Tryz.prog (drawOf Tryz.prog Tryz.f27.ntmps (plans [(15, [0, 1, 2, 3, 4, 5, 6, 7, 8, 9, 10, 11])])) [[3, 4, 5, 12, 13, 14]] false false Tryz.f27 = some { d_query_text with sha := false } := by kernel_rfl
theorem c_strconv_Itoa : compFn Tryz.prog (drawOf Tryz.prog Tryz.f28.ntmps (plans [])) [] false false Tryz.f28 = some { d_strconv_Itoa with sha := false } := by kernel_rfl
theorem c_strings_Builder_String : BsIs Tryz.prog 29 Globs.bld Globs.byt := bld.read
theorem c_check_limits_1 : compFn Tryz.prog (drawOf Tryz.prog Tryz.f30.ntmps (plans [])) [] false false Tryz.f30 = some { d_check_limits_1 with sha := false } := by kernel_rfl
theorem c_slices_ContainsFunc : compFn Tryz.prog (drawOf Tryz.prog Tryz.f31.ntmps (plans [])) [] false false Tryz.f31 = some { d_slices_ContainsFunc with sha := false } := by kernel_rfl
theorem c_check_limits_2 : compFn Tryz.prog (drawOf Tryz.prog Tryz.f32.ntmps (plans [])) [] false false Tryz.f32 = some { d_check_limits_2 with sha := false } := by kernel_rfl
theorem c_slices_ContainsFunc_33 : compFn Tryz.prog (drawOf Tryz.prog Tryz.f33.ntmps (plans [])) [] false false Tryz.f33 = some { d_slices_ContainsFunc_33 with sha := false } := by kernel_rfl
theorem c_check_Names : compFn Tryz.prog (drawOf Tryz.prog Tryz.f34.ntmps (plans [])) [[3, 4, 15, 16, 17]] false false Tryz.f34 = some { d_check_Names with sha := false } := by kernel_rfl
theorem c_slices_ContainsFunc_35 : compFn Tryz.prog (drawOf Tryz.prog Tryz.f35.ntmps (plans [])) [] false false Tryz.f35 = some { d_slices_ContainsFunc_35 with sha := false } := by kernel_rfl
theorem c_slices_Concat : compFn Tryz.prog (drawOf Tryz.prog Tryz.f36.ntmps (plans [])) [[0, 3, 9, 10, 11], [6, 25, 26, 27]] false false Tryz.f36 = some { d_slices_Concat with sha := false } := by kernel_rfl
theorem c_check_placed_1 : compFn Tryz.prog (drawOf Tryz.prog Tryz.f37.ntmps (plans [])) [] false false Tryz.f37 = some { d_check_placed_1 with sha := false } := by kernel_rfl
theorem c_lex_skip : compFn Tryz.prog (drawOf Tryz.prog Tryz.f38.ntmps (plans [])) [[0, 1]] false false Tryz.f38 = some { d_lex_skip with sha := false } := by kernel_rfl
theorem c_lex_Each : compFn Tryz.prog (drawOf Tryz.prog Tryz.f39.ntmps (plans [])) [] false false Tryz.f39 = some { d_lex_Each with sha := false } := by kernel_rfl
theorem c_query_parser_must : compMay Tryz.prog (plans []) (isMay [24, 40, 42, 43, 44, 62, 63, 78, 79, 87, 94]) 57 [] Tryz.f40 = some d_query_parser_must := by kernel_rfl
theorem c_query_parser_may : compFn Tryz.prog (drawOf Tryz.prog Tryz.f41.ntmps (plans [])) [] false false Tryz.f41 = some { d_query_parser_may with sha := false } := by kernel_rfl
theorem c_query_parser_elem : compMay Tryz.prog (plans []) (isMay [24, 40, 42, 43, 44, 62, 63, 78, 79, 87, 94]) 57 [] Tryz.f42 = some d_query_parser_elem := by kernel_rfl
theorem c_query_parser_cond : compMay Tryz.prog (plans []) (isMay [24, 40, 42, 43, 44, 62, 63, 78, 79, 87, 94]) 57 [] Tryz.f43 = some d_query_parser_cond := by kernel_rfl
theorem c_query_parser_kind : compMay Tryz.prog (plans []) (isMay [24, 40, 42, 43, 44, 62, 63, 78, 79, 87, 94]) 57 [] Tryz.f44 = some d_query_parser_kind := by kernel_rfl
theorem c_query_Name : compFn Tryz.prog (drawOf Tryz.prog Tryz.f45.ntmps (plans [])) [] false false Tryz.f45 = some { d_query_Name with sha := false } := by kernel_rfl
theorem c_query_Sound : compFn Tryz.prog (drawOf Tryz.prog Tryz.f46.ntmps (plans [])) [[3, 8, 9, 10]] false false Tryz.f46 = some { d_query_Sound with sha := false } := by kernel_rfl
theorem c_query_text_1 : compFn Tryz.prog (drawOf Tryz.prog Tryz.f48.ntmps (plans [])) [] false false Tryz.f48 = some { d_query_text_1 with sha := false } := by kernel_rfl
theorem c_query_text_2 : compFn Tryz.prog (drawOf Tryz.prog Tryz.f49.ntmps (plans [(1, [0, 2, 4, 5, 1, 3, 6, 7]), (2, [0, 1, 4, 7, 8, 9, 12, 2, 3, 5, 6, 10, 11, 13, 14])])) [] false false Tryz.f49 = some { d_query_text_2 with sha := false } := by kernel_rfl
theorem c_query_part_in : compFn Tryz.prog (drawOf Tryz.prog Tryz.f50.ntmps (plans [])) [] false false Tryz.f50 = some { d_query_part_in with sha := false } := by kernel_rfl
theorem c_strconv_FormatInt : compFn Tryz.prog (drawOf Tryz.prog Tryz.f51.ntmps (plans [])) [] false false Tryz.f51 = some { d_strconv_FormatInt with sha := false } := by kernel_rfl
theorem c_internal_strconv_Itoa : compFn Tryz.prog (drawOf Tryz.prog Tryz.f52.ntmps (plans [])) [] false false Tryz.f52 = some { d_internal_strconv_Itoa with sha := false } := by kernel_rfl
theorem c_slices_IndexFunc : compFn Tryz.prog (drawOf Tryz.prog Tryz.f53.ntmps (plans [])) [[0, 1, 7, 8]] false false Tryz.f53 = some { d_slices_IndexFunc with sha := false } := by kernel_rfl
theorem c_slices_IndexFunc_54 : compFn Tryz.prog (drawOf Tryz.prog Tryz.f54.ntmps (plans [])) [[0, 1, 7, 8]] false false Tryz.f54 = some { d_slices_IndexFunc_54 with sha := false } := by kernel_rfl
theorem c_slices_IndexFunc_55 : compFn Tryz.prog (drawOf Tryz.prog Tryz.f55.ntmps (plans [])) [[0, 1, 7, 8]] false false Tryz.f55 = some { d_slices_IndexFunc_55 with sha := false } := by kernel_rfl
theorem c_slices_Grow : compFn Tryz.prog (drawOf Tryz.prog Tryz.f56.ntmps (plans [])) [] false false Tryz.f56 = some { d_slices_Grow with sha := false } := by kernel_rfl
theorem c_strings_IndexByte : compFn Tryz.prog (drawOf Tryz.prog Tryz.f57.ntmps (plans [])) [] false false Tryz.f57 = some { d_strings_IndexByte with sha := false } := by kernel_rfl
theorem c_lex_Each_1 : compFn Tryz.prog (drawOf Tryz.prog Tryz.f58.ntmps (plans [])) [[0, 1, 3]] false false Tryz.f58 = some { d_lex_Each_1 with sha := false } := by kernel_rfl
theorem c_lex_next : compFn Tryz.prog (drawOf Tryz.prog Tryz.f59.ntmps (plans [])) [] false false Tryz.f59 = some { d_lex_next with sha := false } := by kernel_rfl
theorem c_query_parser_at : compFn Tryz.prog (drawOf Tryz.prog Tryz.f60.ntmps (plans [])) [] false false Tryz.f60 = some { d_query_parser_at with sha := false } := by kernel_rfl
theorem c_query_parser_is : compFn Tryz.prog (drawOf Tryz.prog Tryz.f61.ntmps (plans [])) [] false false Tryz.f61 = some { d_query_parser_is with sha := false } := by kernel_rfl
theorem c_query_parser_sum : compMay Tryz.prog (plans []) (isMay [24, 40, 42, 43, 44, 62, 63, 78, 79, 87, 94]) 57 [] Tryz.f62 = some d_query_parser_sum := by kernel_rfl
theorem c_query_parser_pick : compMay Tryz.prog (plans []) (isMay [24, 40, 42, 43, 44, 62, 63, 78, 79, 87, 94]) 57 [] Tryz.f63 = some d_query_parser_pick := by kernel_rfl
theorem c_query_row_now : compFn Tryz.prog (drawOf Tryz.prog Tryz.f64.ntmps (plans [(1, [0, 1, 2, 3, 4, 5, 6, 7, 8, 9]), (2, [0, 1, 2, 3, 4, 5, 6, 7, 8, 9, 10, 11])])) [] false false Tryz.f64 = some { d_query_row_now with sha := false } := by kernel_rfl
theorem c_query_keyword : compFn Tryz.prog (drawOf Tryz.prog Tryz.f65.ntmps (plans [])) [] false true Tryz.f65 = some { d_query_keyword with sha := false } := by kernel_rfl
theorem c_query_takes : compFn Tryz.prog (drawOf Tryz.prog Tryz.f66.ntmps (plans [(11, [0, 1, 2, 3, 4]), (15, [0, 1, 2, 3, 4, 5, 6, 7, 8, 9, 10, 11, 12, 13, 14])])) [] false false Tryz.f66 = some { d_query_takes with sha := false } := by kernel_rfl
theorem c_internal_strconv_FormatInt : compFn Tryz.prog (drawOf Tryz.prog Tryz.f68.ntmps (plans [])) [] false false Tryz.f68 = some { d_internal_strconv_FormatInt with sha := false } := by kernel_rfl
theorem c_internal_stringslite_IndexByte : compFn Tryz.prog (drawOf Tryz.prog Tryz.f69.ntmps (plans [])) [] false false Tryz.f69 = some { d_internal_stringslite_IndexByte with sha := false } := by kernel_rfl
theorem c_lex_next_1 : compFn Tryz.prog (drawOf Tryz.prog Tryz.f70.ntmps (plans [])) [] false false Tryz.f70 = some { d_lex_next_1 with sha := false } := by kernel_rfl
theorem c_lex_small : compFn Tryz.prog (drawOf Tryz.prog Tryz.f71.ntmps (plans [])) [] false false Tryz.f71 = some { d_lex_small with sha := false } := by kernel_rfl
theorem c_lex_digit : compFn Tryz.prog (drawOf Tryz.prog Tryz.f72.ntmps (plans [])) [] false false Tryz.f72 = some { d_lex_digit with sha := false } := by kernel_rfl
theorem c_lex_run : compFn Tryz.prog (drawOf Tryz.prog Tryz.f73.ntmps (plans [])) [[0, 1, 5]] false false Tryz.f73 = some { d_lex_run with sha := false } := by kernel_rfl
theorem c_lex_number : compFn Tryz.prog (drawOf Tryz.prog Tryz.f74.ntmps (plans [])) [[4, 9, 10, 11]] false false Tryz.f74 = some { d_lex_number with sha := false } := by kernel_rfl
theorem c_lex_ends : compFn Tryz.prog (drawOf Tryz.prog Tryz.f75.ntmps (plans [])) [] false false Tryz.f75 = some { d_lex_ends with sha := false } := by kernel_rfl
theorem c_lex_letter : compFn Tryz.prog (drawOf Tryz.prog Tryz.f76.ntmps (plans [])) [] false false Tryz.f76 = some { d_lex_letter with sha := false } := by kernel_rfl
theorem c_lex_sign : compFn Tryz.prog (drawOf Tryz.prog Tryz.f77.ntmps (plans [])) [] false false Tryz.f77 = some { d_lex_sign with sha := false } := by kernel_rfl
theorem c_query_parser_chain : compMay Tryz.prog (plans []) (isMay [24, 40, 42, 43, 44, 62, 63, 78, 79, 87, 94]) 57 [[0, 1, 2, 3, 9]] Tryz.f78 = some d_query_parser_chain := by kernel_rfl
theorem c_query_parser_product : compMay Tryz.prog (plans []) (isMay [24, 40, 42, 43, 44, 62, 63, 78, 79, 87, 94]) 57 [] Tryz.f79 = some d_query_parser_product := by kernel_rfl
theorem c_slices_IndexFunc_80 : compFn Tryz.prog (drawOf Tryz.prog Tryz.f80.ntmps (plans [])) [[0, 1, 7, 8]] false false Tryz.f80 = some { d_slices_IndexFunc_80 with sha := false } := by kernel_rfl
theorem c_strings_Contains : compFn Tryz.prog (drawOf Tryz.prog Tryz.f81.ntmps (plans [])) [] false true Tryz.f81 = some { d_strings_Contains with sha := false } := by kernel_rfl
theorem c_internal_strconv_small : compFn Tryz.prog (drawOf Tryz.prog Tryz.f82.ntmps (plans [])) [] false false Tryz.f82 = some { d_internal_strconv_small with sha := false } := by kernel_rfl
theorem c_internal_strconv_numDigits : compFn Tryz.prog (drawOf Tryz.prog Tryz.f83.ntmps (plans [])) [] false false Tryz.f83 = some { d_internal_strconv_numDigits with sha := false } := by kernel_rfl
theorem c_internal_strconv_formatBase10 : compFn Tryz.prog (drawOf Tryz.prog Tryz.f84.ntmps (plans [(7, [0, 1, 2, 3, 4, 5, 6, 7, 8, 9, 10, 11, 12, 13, 14]), (8, [0, 1, 2, 3, 4, 5, 6, 7, 8, 9, 10, 11, 12, 13, 14]), (9, [0, 1, 2, 3, 4, 5, 6, 7, 8, 9, 10, 11, 12, 13, 14]), (10, [0, 1, 2, 3, 4, 5, 6, 7, 8, 9, 10, 11, 12, 13, 14]), (17, [0, 1, 2, 3, 4, 5, 6, 7, 8, 9, 10, 11, 12, 13, 14]), (18, [0, 1, 2, 3, 4, 5, 6, 7, 8, 9, 10, 11, 12, 13, 14]), (23, [0, 1, 2, 3, 4, 5, 6, 7, 8, 9, 10, 11, 12, 13, 14])])) [[0, 1, 4]] false false Tryz.f84 = some { d_internal_strconv_formatBase10 with sha := false } := by kernel_rfl
theorem c_internal_strconv_formatBits : compFn Tryz.prog (drawOf Tryz.prog Tryz.f85.ntmps (plans [])) [[0, 1, 3, 4, 10, 11, 12, 13, 14, 15, 16], [0, 1, 3, 4, 10, 11, 12, 13, 17]] false false Tryz.f85 = some { d_internal_strconv_formatBits with sha := false } := by kernel_rfl
theorem c_query_parser_unary : compMay Tryz.prog (plans []) (isMay [24, 40, 42, 43, 44, 62, 63, 78, 79, 87, 94]) 57 [] Tryz.f87 = some d_query_parser_unary := by kernel_rfl
theorem c_strings_Index : compFn Tryz.prog (drawOf Tryz.prog Tryz.f88.ntmps (plans [])) [] false true Tryz.f88 = some { d_strings_Index with sha := false } := by kernel_rfl
theorem c_internal_strconv_log10Pow2 : compFn Tryz.prog (drawOf Tryz.prog Tryz.f89.ntmps (plans [])) [] false false Tryz.f89 = some { d_internal_strconv_log10Pow2 with sha := false } := by kernel_rfl
theorem c_math_bits_Len64 : compFn Tryz.prog (drawOf Tryz.prog Tryz.f90.ntmps (plans [])) [] false false Tryz.f90 = some { d_math_bits_Len64 with sha := false } := by kernel_rfl
theorem c_internal_strconv_bool2 : compFn Tryz.prog (drawOf Tryz.prog Tryz.f91.ntmps (plans [])) [] false false Tryz.f91 = some { d_internal_strconv_bool2 with sha := false } := by kernel_rfl
theorem c_internal_strconv_isPowerOfTwo : compFn Tryz.prog (drawOf Tryz.prog Tryz.f92.ntmps (plans [])) [] false false Tryz.f92 = some { d_internal_strconv_isPowerOfTwo with sha := false } := by kernel_rfl
theorem c_math_bits_TrailingZeros : compFn Tryz.prog (drawOf Tryz.prog Tryz.f93.ntmps (plans [])) [] false false Tryz.f93 = some { d_math_bits_TrailingZeros with sha := false } := by kernel_rfl
theorem c_query_parser_within : compMay Tryz.prog (plans []) (isMay [24, 40, 42, 43, 44, 62, 63, 78, 79, 87, 94]) 57 [] Tryz.f94 = some d_query_parser_within := by kernel_rfl
theorem c_internal_stringslite_Index : compFn Tryz.prog (drawOf Tryz.prog Tryz.f95.ntmps (plans [])) [[0, 1, 5, 6, 7, 8, 9, 10]] false true Tryz.f95 = some { d_internal_stringslite_Index with sha := false } := by kernel_rfl
theorem c_math_bits_TrailingZeros32 : compFn Tryz.prog (drawOf Tryz.prog Tryz.f96.ntmps (plans [])) [] false false Tryz.f96 = some { d_math_bits_TrailingZeros32 with sha := false } := by kernel_rfl
theorem c_math_bits_TrailingZeros64 : compFn Tryz.prog (drawOf Tryz.prog Tryz.f97.ntmps (plans [])) [] false false Tryz.f97 = some { d_math_bits_TrailingZeros64 with sha := false } := by kernel_rfl
theorem c_internal_bytealg_Cutover : compFn Tryz.prog (drawOf Tryz.prog Tryz.f99.ntmps (plans [])) [] false false Tryz.f99 = some { d_internal_bytealg_Cutover with sha := false } := by kernel_rfl
theorem c_internal_bytealg_IndexRabinKarp : compFn Tryz.prog (drawOf Tryz.prog Tryz.f100.ntmps (plans [])) [[0, 1, 5, 6, 7, 8, 9], [0, 1, 5, 6, 7, 8, 10]] false false Tryz.f100 = some { d_internal_bytealg_IndexRabinKarp with sha := false } := by kernel_rfl
theorem c_internal_bytealg_hashStr : compFn Tryz.prog (drawOf Tryz.prog Tryz.f101.ntmps (plans [])) [[0, 4, 5], [4, 6, 7, 8]] false false Tryz.f101 = some { d_internal_bytealg_hashStr with sha := false } := by kernel_rfl
omit [Mx] in
theorem mixed : Tryz.prog.follows .mixedOrders = true := by kernel_rfl
theorem k_sibyllaw04_CheckNots : FnOK Tryz.prog n_sibyllaw04_CheckNots d_sibyllaw04_CheckNots := fnOK mixed Tryz.func3 (by kernel_rfl) c_sibyllaw04_CheckNots
theorem k_sibyllaw04_awake : FnOK Tryz.prog n_sibyllaw04_awake d_sibyllaw04_awake := fnOK mixed Tryz.func4 (by kernel_rfl) c_sibyllaw04_awake
theorem k_check_Check : FnOK Tryz.prog n_check_Check d_check_Check := fnOK mixed Tryz.func5 (by kernel_rfl) c_check_Check
theorem k_check_Place : FnOK Tryz.prog n_check_Place d_check_Place := fnOK mixed Tryz.func6 (by kernel_rfl) c_check_Place
theorem k_check_Rules : FnOK Tryz.prog n_check_Rules d_check_Rules := fnOK mixed Tryz.func7 (by kernel_rfl) c_check_Rules
theorem k_query_Parse : FnOK Tryz.prog n_query_Parse d_query_Parse := catchMOK (s := ⟨23, [], [(.t 2), (.t 3), (.t 4)], 9999⟩) mixed Tryz.func8 (by kernel_rfl) Tryz.func23 (by kernel_rfl) (by kernel_rfl) c_query_Parse rfl rfl
theorem k_check_Check_1 : FnOK Tryz.prog n_check_Check_1 d_check_Check_1 := fnOK mixed Tryz.func9 (by kernel_rfl) c_check_Check_1
theorem k_query_Print : FnOK Tryz.prog n_query_Print d_query_Print := fnOK mixed Tryz.func10 (by kernel_rfl) c_query_Print
theorem k_check_Check_2 : FnOK Tryz.prog n_check_Check_2 d_check_Check_2 := fnOK mixed Tryz.func11 (by kernel_rfl) c_check_Check_2
theorem k_check_limits : FnOK Tryz.prog n_check_limits d_check_limits := fnOK mixed Tryz.func12 (by kernel_rfl) c_check_limits
theorem k_check_Check_3 : FnOK Tryz.prog n_check_Check_3 d_check_Check_3 := fnOK mixed Tryz.func13 (by kernel_rfl) c_check_Check_3
theorem k_check_known : FnOK Tryz.prog n_check_known d_check_known := fnOK mixed Tryz.func14 (by kernel_rfl) c_check_known
theorem k_check_Check_4 : FnOK Tryz.prog n_check_Check_4 d_check_Check_4 := fnOK mixed Tryz.func15 (by kernel_rfl) c_check_Check_4
theorem k_check_placed : FnOK Tryz.prog n_check_placed d_check_placed := fnOK mixed Tryz.func16 (by kernel_rfl) c_check_placed
theorem k_check_last : FnOK Tryz.prog n_check_last d_check_last := fnOK mixed Tryz.func17 (by kernel_rfl) c_check_last
theorem k_check_places : FnOK Tryz.prog n_check_places d_check_places := fnOK mixed Tryz.func18 (by kernel_rfl) c_check_places
theorem k_check_Rules_1 : FnOK Tryz.prog n_check_Rules_1 d_check_Rules_1 := fnOK mixed Tryz.func19 (by kernel_rfl) c_check_Rules_1
theorem k_slices_Clone : FnOK Tryz.prog n_slices_Clone d_slices_Clone := fnOK mixed Tryz.func20 (by kernel_rfl) c_slices_Clone
theorem k_check_names : FnOK Tryz.prog n_check_names d_check_names := fnOK mixed Tryz.func21 (by kernel_rfl) c_check_names
theorem k_lex_Lex : FnOK Tryz.prog n_lex_Lex d_lex_Lex := fnOK mixed Tryz.func22 (by kernel_rfl) c_lex_Lex
theorem k_Parse1_e : FnOK Tryz.prog n_Parse1_e d_Parse1_e := endOK mixed Tryz.func23 c_Parse1_e (by kernel_rfl)
theorem k_Parse1_p : FnOK Tryz.prog n_Parse1_p d_Parse1_p := panOK mixed Tryz.func23 c_Parse1_p (by kernel_rfl)
theorem k_query_parser_query : FnOK Tryz.prog n_query_parser_query d_query_parser_query := mayOK mixed Tryz.func24 (by kernel_rfl) c_query_parser_query (by kernel_rfl)
theorem k_query_printable : FnOK Tryz.prog n_query_printable d_query_printable := fnOK mixed Tryz.func25 (by kernel_rfl) c_query_printable
theorem k_strings_Builder_WriteString : FnOK Tryz.prog n_strings_Builder_WriteString d_strings_Builder_WriteString := bwOK Tryz.func26 (by kernel_rfl) (by kernel_rfl) c_strings_Builder_WriteString (by kernel_rfl)
theorem k_query_text : FnOK Tryz.prog n_query_text d_query_text := fnOK mixed Tryz.func27 (by kernel_rfl) c_query_text
theorem k_strconv_Itoa : FnOK Tryz.prog n_strconv_Itoa d_strconv_Itoa := fnOK mixed Tryz.func28 (by kernel_rfl) c_strconv_Itoa
theorem k_strings_Builder_String : FnOK Tryz.prog n_strings_Builder_String d_strings_Builder_String := bsOK Tryz.func29 (by kernel_rfl) (by kernel_rfl) c_strings_Builder_String (by kernel_rfl)
theorem k_check_limits_1 : FnOK Tryz.prog n_check_limits_1 d_check_limits_1 := fnOK mixed Tryz.func30 (by kernel_rfl) c_check_limits_1
theorem k_slices_ContainsFunc : FnOK Tryz.prog n_slices_ContainsFunc d_slices_ContainsFunc := fnOK mixed Tryz.func31 (by kernel_rfl) c_slices_ContainsFunc
theorem k_check_limits_2 : FnOK Tryz.prog n_check_limits_2 d_check_limits_2 := fnOK mixed Tryz.func32 (by kernel_rfl) c_check_limits_2
theorem k_slices_ContainsFunc_33 : FnOK Tryz.prog n_slices_ContainsFunc_33 d_slices_ContainsFunc_33 := fnOK mixed Tryz.func33 (by kernel_rfl) c_slices_ContainsFunc_33
theorem k_check_Names : FnOK Tryz.prog n_check_Names d_check_Names := fnOK mixed Tryz.func34 (by kernel_rfl) c_check_Names
theorem k_slices_ContainsFunc_35 : FnOK Tryz.prog n_slices_ContainsFunc_35 d_slices_ContainsFunc_35 := fnOK mixed Tryz.func35 (by kernel_rfl) c_slices_ContainsFunc_35
theorem k_slices_Concat : FnOK Tryz.prog n_slices_Concat d_slices_Concat := fnOK mixed Tryz.func36 (by kernel_rfl) c_slices_Concat
theorem k_check_placed_1 : FnOK Tryz.prog n_check_placed_1 d_check_placed_1 := fnOK mixed Tryz.func37 (by kernel_rfl) c_check_placed_1
theorem k_lex_skip : FnOK Tryz.prog n_lex_skip d_lex_skip := fnOK mixed Tryz.func38 (by kernel_rfl) c_lex_skip
theorem k_lex_Each : FnOK Tryz.prog n_lex_Each d_lex_Each := fnOK mixed Tryz.func39 (by kernel_rfl) c_lex_Each
theorem k_query_parser_must : FnOK Tryz.prog n_query_parser_must d_query_parser_must := mayOK mixed Tryz.func40 (by kernel_rfl) c_query_parser_must (by kernel_rfl)
theorem k_query_parser_may : FnOK Tryz.prog n_query_parser_may d_query_parser_may := fnOK mixed Tryz.func41 (by kernel_rfl) c_query_parser_may
theorem k_query_parser_elem : FnOK Tryz.prog n_query_parser_elem d_query_parser_elem := mayOK mixed Tryz.func42 (by kernel_rfl) c_query_parser_elem (by kernel_rfl)
theorem k_query_parser_cond : FnOK Tryz.prog n_query_parser_cond d_query_parser_cond := mayOK mixed Tryz.func43 (by kernel_rfl) c_query_parser_cond (by kernel_rfl)
theorem k_query_parser_kind : FnOK Tryz.prog n_query_parser_kind d_query_parser_kind := mayOK mixed Tryz.func44 (by kernel_rfl) c_query_parser_kind (by kernel_rfl)
theorem k_query_Name : FnOK Tryz.prog n_query_Name d_query_Name := fnOK mixed Tryz.func45 (by kernel_rfl) c_query_Name
theorem k_query_Sound : FnOK Tryz.prog n_query_Sound d_query_Sound := fnOK mixed Tryz.func46 (by kernel_rfl) c_query_Sound
theorem k_query_text_1 : FnOK Tryz.prog n_query_text_1 d_query_text_1 := fnOK mixed Tryz.func48 (by kernel_rfl) c_query_text_1
theorem k_query_text_2 : FnOK Tryz.prog n_query_text_2 d_query_text_2 := fnOK mixed Tryz.func49 (by kernel_rfl) c_query_text_2
theorem k_query_part_in : FnOK Tryz.prog n_query_part_in d_query_part_in := fnOK mixed Tryz.func50 (by kernel_rfl) c_query_part_in
theorem k_strconv_FormatInt : FnOK Tryz.prog n_strconv_FormatInt d_strconv_FormatInt := fnOK mixed Tryz.func51 (by kernel_rfl) c_strconv_FormatInt
theorem k_internal_strconv_Itoa : FnOK Tryz.prog n_internal_strconv_Itoa d_internal_strconv_Itoa := fnOK mixed Tryz.func52 (by kernel_rfl) c_internal_strconv_Itoa
theorem k_slices_IndexFunc : FnOK Tryz.prog n_slices_IndexFunc d_slices_IndexFunc := fnOK mixed Tryz.func53 (by kernel_rfl) c_slices_IndexFunc
theorem k_slices_IndexFunc_54 : FnOK Tryz.prog n_slices_IndexFunc_54 d_slices_IndexFunc_54 := fnOK mixed Tryz.func54 (by kernel_rfl) c_slices_IndexFunc_54
theorem k_slices_IndexFunc_55 : FnOK Tryz.prog n_slices_IndexFunc_55 d_slices_IndexFunc_55 := fnOK mixed Tryz.func55 (by kernel_rfl) c_slices_IndexFunc_55
theorem k_slices_Grow : FnOK Tryz.prog n_slices_Grow d_slices_Grow := fnOK mixed Tryz.func56 (by kernel_rfl) c_slices_Grow
theorem k_strings_IndexByte : FnOK Tryz.prog n_strings_IndexByte d_strings_IndexByte := fnOK mixed Tryz.func57 (by kernel_rfl) c_strings_IndexByte
theorem k_lex_Each_1 : FnOK Tryz.prog n_lex_Each_1 d_lex_Each_1 := fnOK mixed Tryz.func58 (by kernel_rfl) c_lex_Each_1
theorem k_lex_next : FnOK Tryz.prog n_lex_next d_lex_next := fnOK mixed Tryz.func59 (by kernel_rfl) c_lex_next
theorem k_query_parser_at : FnOK Tryz.prog n_query_parser_at d_query_parser_at := fnOK mixed Tryz.func60 (by kernel_rfl) c_query_parser_at
theorem k_query_parser_is : FnOK Tryz.prog n_query_parser_is d_query_parser_is := fnOK mixed Tryz.func61 (by kernel_rfl) c_query_parser_is
theorem k_query_parser_sum : FnOK Tryz.prog n_query_parser_sum d_query_parser_sum := mayOK mixed Tryz.func62 (by kernel_rfl) c_query_parser_sum (by kernel_rfl)
theorem k_query_parser_pick : FnOK Tryz.prog n_query_parser_pick d_query_parser_pick := mayOK mixed Tryz.func63 (by kernel_rfl) c_query_parser_pick (by kernel_rfl)
theorem k_query_row_now : FnOK Tryz.prog n_query_row_now d_query_row_now := fnOK mixed Tryz.func64 (by kernel_rfl) c_query_row_now
theorem k_query_keyword : FnOK Tryz.prog n_query_keyword d_query_keyword := fnOK mixed Tryz.func65 (by kernel_rfl) c_query_keyword
theorem k_query_takes : FnOK Tryz.prog n_query_takes d_query_takes := fnOK mixed Tryz.func66 (by kernel_rfl) c_query_takes
theorem k_internal_strconv_FormatInt : FnOK Tryz.prog n_internal_strconv_FormatInt d_internal_strconv_FormatInt := fnOK mixed Tryz.func68 (by kernel_rfl) c_internal_strconv_FormatInt
theorem k_internal_stringslite_IndexByte : FnOK Tryz.prog n_internal_stringslite_IndexByte d_internal_stringslite_IndexByte := fnOK mixed Tryz.func69 (by kernel_rfl) c_internal_stringslite_IndexByte
theorem k_lex_next_1 : FnOK Tryz.prog n_lex_next_1 d_lex_next_1 := fnOK mixed Tryz.func70 (by kernel_rfl) c_lex_next_1
theorem k_lex_small : FnOK Tryz.prog n_lex_small d_lex_small := fnOK mixed Tryz.func71 (by kernel_rfl) c_lex_small
theorem k_lex_digit : FnOK Tryz.prog n_lex_digit d_lex_digit := fnOK mixed Tryz.func72 (by kernel_rfl) c_lex_digit
theorem k_lex_run : FnOK Tryz.prog n_lex_run d_lex_run := fnOK mixed Tryz.func73 (by kernel_rfl) c_lex_run
theorem k_lex_number : FnOK Tryz.prog n_lex_number d_lex_number := fnOK mixed Tryz.func74 (by kernel_rfl) c_lex_number
theorem k_lex_ends : FnOK Tryz.prog n_lex_ends d_lex_ends := fnOK mixed Tryz.func75 (by kernel_rfl) c_lex_ends
theorem k_lex_letter : FnOK Tryz.prog n_lex_letter d_lex_letter := fnOK mixed Tryz.func76 (by kernel_rfl) c_lex_letter
theorem k_lex_sign : FnOK Tryz.prog n_lex_sign d_lex_sign := fnOK mixed Tryz.func77 (by kernel_rfl) c_lex_sign
theorem k_query_parser_chain : FnOK Tryz.prog n_query_parser_chain d_query_parser_chain := mayOK mixed Tryz.func78 (by kernel_rfl) c_query_parser_chain (by kernel_rfl)
theorem k_query_parser_product : FnOK Tryz.prog n_query_parser_product d_query_parser_product := mayOK mixed Tryz.func79 (by kernel_rfl) c_query_parser_product (by kernel_rfl)
theorem k_slices_IndexFunc_80 : FnOK Tryz.prog n_slices_IndexFunc_80 d_slices_IndexFunc_80 := fnOK mixed Tryz.func80 (by kernel_rfl) c_slices_IndexFunc_80
theorem k_strings_Contains : FnOK Tryz.prog n_strings_Contains d_strings_Contains := fnOK mixed Tryz.func81 (by kernel_rfl) c_strings_Contains
theorem k_internal_strconv_small : FnOK Tryz.prog n_internal_strconv_small d_internal_strconv_small := fnOK mixed Tryz.func82 (by kernel_rfl) c_internal_strconv_small
theorem k_internal_strconv_numDigits : FnOK Tryz.prog n_internal_strconv_numDigits d_internal_strconv_numDigits := fnOK mixed Tryz.func83 (by kernel_rfl) c_internal_strconv_numDigits
theorem k_internal_strconv_formatBase10 : FnOK Tryz.prog n_internal_strconv_formatBase10 d_internal_strconv_formatBase10 := fnOK mixed Tryz.func84 (by kernel_rfl) c_internal_strconv_formatBase10
theorem k_internal_strconv_formatBits : FnOK Tryz.prog n_internal_strconv_formatBits d_internal_strconv_formatBits := fnOK mixed Tryz.func85 (by kernel_rfl) c_internal_strconv_formatBits
theorem k_query_parser_unary : FnOK Tryz.prog n_query_parser_unary d_query_parser_unary := mayOK mixed Tryz.func87 (by kernel_rfl) c_query_parser_unary (by kernel_rfl)
theorem k_strings_Index : FnOK Tryz.prog n_strings_Index d_strings_Index := fnOK mixed Tryz.func88 (by kernel_rfl) c_strings_Index
theorem k_internal_strconv_log10Pow2 : FnOK Tryz.prog n_internal_strconv_log10Pow2 d_internal_strconv_log10Pow2 := fnOK mixed Tryz.func89 (by kernel_rfl) c_internal_strconv_log10Pow2
theorem k_math_bits_Len64 : FnOK Tryz.prog n_math_bits_Len64 d_math_bits_Len64 := fnOK mixed Tryz.func90 (by kernel_rfl) c_math_bits_Len64
theorem k_internal_strconv_bool2 : FnOK Tryz.prog n_internal_strconv_bool2 d_internal_strconv_bool2 := fnOK mixed Tryz.func91 (by kernel_rfl) c_internal_strconv_bool2
theorem k_internal_strconv_isPowerOfTwo : FnOK Tryz.prog n_internal_strconv_isPowerOfTwo d_internal_strconv_isPowerOfTwo := fnOK mixed Tryz.func92 (by kernel_rfl) c_internal_strconv_isPowerOfTwo
theorem k_math_bits_TrailingZeros : FnOK Tryz.prog n_math_bits_TrailingZeros d_math_bits_TrailingZeros := fnOK mixed Tryz.func93 (by kernel_rfl) c_math_bits_TrailingZeros
theorem k_query_parser_within : FnOK Tryz.prog n_query_parser_within d_query_parser_within := mayOK mixed Tryz.func94 (by kernel_rfl) c_query_parser_within (by kernel_rfl)
theorem k_internal_stringslite_Index : FnOK Tryz.prog n_internal_stringslite_Index d_internal_stringslite_Index := fnOK mixed Tryz.func95 (by kernel_rfl) c_internal_stringslite_Index
theorem k_math_bits_TrailingZeros32 : FnOK Tryz.prog n_math_bits_TrailingZeros32 d_math_bits_TrailingZeros32 := fnOK mixed Tryz.func96 (by kernel_rfl) c_math_bits_TrailingZeros32
theorem k_math_bits_TrailingZeros64 : FnOK Tryz.prog n_math_bits_TrailingZeros64 d_math_bits_TrailingZeros64 := fnOK mixed Tryz.func97 (by kernel_rfl) c_math_bits_TrailingZeros64
theorem k_internal_bytealg_Cutover : FnOK Tryz.prog n_internal_bytealg_Cutover d_internal_bytealg_Cutover := fnOK mixed Tryz.func99 (by kernel_rfl) c_internal_bytealg_Cutover
theorem k_internal_bytealg_IndexRabinKarp : FnOK Tryz.prog n_internal_bytealg_IndexRabinKarp d_internal_bytealg_IndexRabinKarp := fnOK mixed Tryz.func100 (by kernel_rfl) c_internal_bytealg_IndexRabinKarp
theorem k_internal_bytealg_hashStr : FnOK Tryz.prog n_internal_bytealg_hashStr d_internal_bytealg_hashStr := fnOK mixed Tryz.func101 (by kernel_rfl) c_internal_bytealg_hashStr
theorem progOK : @ProgOK _ (siteRel Tryz.prog) Tryz.prog prog :=
  progOK_cons k_sibyllaw04_CheckNots (progOK_cons k_sibyllaw04_awake (progOK_cons k_check_Check (progOK_cons k_check_Place (progOK_cons k_check_Rules (progOK_cons k_query_Parse (progOK_cons k_check_Check_1 (progOK_cons k_query_Print (progOK_cons k_check_Check_2 (progOK_cons k_check_limits (progOK_cons k_check_Check_3 (progOK_cons k_check_known (progOK_cons k_check_Check_4 (progOK_cons k_check_placed (progOK_cons k_check_last (progOK_cons k_check_places (progOK_cons k_check_Rules_1 (progOK_cons k_slices_Clone (progOK_cons k_check_names (progOK_cons k_lex_Lex (progOK_cons k_Parse1_e (progOK_cons k_Parse1_p (progOK_cons k_query_parser_query (progOK_cons k_query_printable (progOK_cons k_strings_Builder_WriteString (progOK_cons k_query_text (progOK_cons k_strconv_Itoa (progOK_cons k_strings_Builder_String (progOK_cons k_check_limits_1 (progOK_cons k_slices_ContainsFunc (progOK_cons k_check_limits_2 (progOK_cons k_slices_ContainsFunc_33 (progOK_cons k_check_Names (progOK_cons k_slices_ContainsFunc_35 (progOK_cons k_slices_Concat (progOK_cons k_check_placed_1 (progOK_cons k_lex_skip (progOK_cons k_lex_Each (progOK_cons k_query_parser_must (progOK_cons k_query_parser_may (progOK_cons k_query_parser_elem (progOK_cons k_query_parser_cond (progOK_cons k_query_parser_kind (progOK_cons k_query_Name (progOK_cons k_query_Sound (progOK_cons k_query_text_1 (progOK_cons k_query_text_2 (progOK_cons k_query_part_in (progOK_cons k_strconv_FormatInt (progOK_cons k_internal_strconv_Itoa (progOK_cons k_slices_IndexFunc (progOK_cons k_slices_IndexFunc_54 (progOK_cons k_slices_IndexFunc_55 (progOK_cons k_slices_Grow (progOK_cons k_strings_IndexByte (progOK_cons k_lex_Each_1 (progOK_cons k_lex_next (progOK_cons k_query_parser_at (progOK_cons k_query_parser_is (progOK_cons k_query_parser_sum (progOK_cons k_query_parser_pick (progOK_cons k_query_row_now (progOK_cons k_query_keyword (progOK_cons k_query_takes (progOK_cons k_internal_strconv_FormatInt (progOK_cons k_internal_stringslite_IndexByte (progOK_cons k_lex_next_1 (progOK_cons k_lex_small (progOK_cons k_lex_digit (progOK_cons k_lex_run (progOK_cons k_lex_number (progOK_cons k_lex_ends (progOK_cons k_lex_letter (progOK_cons k_lex_sign (progOK_cons k_query_parser_chain (progOK_cons k_query_parser_product (progOK_cons k_slices_IndexFunc_80 (progOK_cons k_strings_Contains (progOK_cons k_internal_strconv_small (progOK_cons k_internal_strconv_numDigits (progOK_cons k_internal_strconv_formatBase10 (progOK_cons k_internal_strconv_formatBits (progOK_cons k_query_parser_unary (progOK_cons k_strings_Index (progOK_cons k_internal_strconv_log10Pow2 (progOK_cons k_math_bits_Len64 (progOK_cons k_internal_strconv_bool2 (progOK_cons k_internal_strconv_isPowerOfTwo (progOK_cons k_math_bits_TrailingZeros (progOK_cons k_query_parser_within (progOK_cons k_internal_stringslite_Index (progOK_cons k_math_bits_TrailingZeros32 (progOK_cons k_math_bits_TrailingZeros64 (progOK_cons k_internal_bytealg_Cutover (progOK_cons k_internal_bytealg_IndexRabinKarp (progOK_cons k_internal_bytealg_hashStr (progOK_nil _))))))))))))))))))))))))))))))))))))))))))))))))))))))))))))))))))))))))))))))))))))))))))))))))
theorem callOK : @CallOK _ (siteRel Tryz.prog) Tryz.prog C0 := calls_ok mixed progOK rfl
end Go.Proofs.YtfielioaflfekaaGreatDoor.bind
