/- Each function of D's list is the program's function of that number: D's calls are the model's. No condition. -/
import Derived.Test.YtalodgghnpnnkaaDoorRows
import Derived.Test.YtalodgghnpnnkaaDoorP
import Derived.Test.YtalodgghnpnnkaaDoorBuilder
import Derived.KernelRfl
namespace Go.Proofs.YtalodgghnpnnkaaDoor.bind
open Go Dk Dk.M
variable [Mx]
theorem c_sibyllaw03_QueryNest : compFn Tryd.prog (drawOf Tryd.prog Tryd.f3.ntmps (plans [])) [[1, 5, 6, 7, 8, 9]] false true Tryd.f3 = some { d_sibyllaw03_QueryNest with sha := false } := by kernel_rfl
theorem c_sibyllaw03_awake : compFn Tryd.prog (drawOf Tryd.prog Tryd.f5.ntmps (plans [])) [] false true Tryd.f5 = some { d_sibyllaw03_awake with sha := false } := by kernel_rfl
theorem c_query_Parse : compCatchM Tryd.prog (plans [(3, [0, 1, 2, 3, 4, 5])]) (isMay [13, 24, 26, 27, 28, 43, 44, 61, 62, 76, 86]) 39 ⟨12, [], [(.t 2), (.t 3), (.t 4)], 9999⟩ [] false Tryd.f6 = some d_query_Parse := by kernel_rfl
theorem c_query_Name : compFn Tryd.prog (drawOf Tryd.prog Tryd.f8.ntmps (plans [])) [] false true Tryd.f8 = some { d_query_Name with sha := false } := by kernel_rfl
theorem c_query_Print : compFn Tryd.prog (drawOf Tryd.prog Tryd.f10.ntmps (plans [(21, [0, 1, 2, 6, 7, 8, 9, 10, 13, 14, 3, 4, 5, 11, 12, 15, 16, 17])])) [[1, 3, 4, 13, 14, 15], [1, 3, 4, 40, 41, 42]] false true Tryd.f10 = some { d_query_Print with sha := false } := by kernel_rfl
theorem c_lex_Lex : compFn Tryd.prog (drawOf Tryd.prog Tryd.f11.ntmps (plans [(6, [0, 1, 2, 3, 4]), (10, [0, 1, 2, 3]), (11, [0, 1, 2, 3, 4, 5])])) [[1, 2, 3, 4, 5, 6]] true true Tryd.f11 = some { d_lex_Lex with sha := false } := by kernel_rfl
theorem c_Parse1_e : compEnd Tryd.prog (drawOf Tryd.prog Tryd.f12.ntmps (plans [(2, [0, 1, 2, 3, 4, 5, 6, 7])])) [] Tryd.f12 = some d_Parse1_e := by kernel_rfl
theorem c_Parse1_p : compPan Tryd.prog (drawOf Tryd.prog Tryd.f12.ntmps (plans [(2, [0, 1, 2, 3, 4, 5, 6, 7])])) [] Tryd.f12 = some d_Parse1_p := by kernel_rfl
theorem c_query_parser_query : compMay Tryd.prog (plans [(5, [0, 1, 2, 3, 4, 5, 6, 7]), (9, [0, 1, 2, 3, 4, 5, 6, 7]), (14, [0, 1, 2, 3, 4, 5, 6, 7, 8, 9, 10, 11, 12, 13])]) (isMay [13, 24, 26, 27, 28, 43, 44, 61, 62, 76, 86]) 39 [[0, 2, 3], [0, 2, 4]] Tryd.f13 = some d_query_parser_query := by kernel_rfl
theorem c_query_keyword : compFn Tryd.prog (drawOf Tryd.prog Tryd.f14.ntmps (plans [])) [] false true Tryd.f14 = some { d_query_keyword with sha := false } := by kernel_rfl
theorem c_query_printable : compFn Tryd.prog (drawOf Tryd.prog Tryd.f17.ntmps (plans [])) [[1, 3, 18, 19, 20], [3, 44, 45, 46]] false true Tryd.f17 = some { d_query_printable with sha := false } := by kernel_rfl
theorem c_strings_Builder_WriteString : BwIs Tryd.prog 18 Globs.bld Globs.byt := bld.write
theorem c_query_text : compFn Tryd.prog (drawOf Tryd.prog Tryd.f19.ntmps (plans [(15, [0, 1, 2, 3, 4, 5, 6, 7, 8, 9, 10, 11])])) [[3, 4, 5, 12, 13, 14]] false true Tryd.f19 = some { d_query_text with sha := false } := by kernel_rfl
theorem c_strconv_Itoa : compFn Tryd.prog (drawOf Tryd.prog Tryd.f20.ntmps (plans [])) [] false true Tryd.f20 = some { d_strconv_Itoa with sha := false } := by kernel_rfl
theorem c_strings_Builder_String : BsIs Tryd.prog 21 Globs.bld Globs.byt := bld.read
theorem c_lex_skip : compFn Tryd.prog (drawOf Tryd.prog Tryd.f22.ntmps (plans [])) [[0, 1]] false true Tryd.f22 = some { d_lex_skip with sha := false } := by kernel_rfl
theorem c_lex_Each : compFn Tryd.prog (drawOf Tryd.prog Tryd.f23.ntmps (plans [])) [] false false Tryd.f23 = some { d_lex_Each with sha := false } := by kernel_rfl
theorem c_query_parser_must : compMay Tryd.prog (plans []) (isMay [13, 24, 26, 27, 28, 43, 44, 61, 62, 76, 86]) 39 [] Tryd.f24 = some d_query_parser_must := by kernel_rfl
theorem c_query_parser_may : compFn Tryd.prog (drawOf Tryd.prog Tryd.f25.ntmps (plans [])) [] false false Tryd.f25 = some { d_query_parser_may with sha := false } := by kernel_rfl
theorem c_query_parser_elem : compMay Tryd.prog (plans []) (isMay [13, 24, 26, 27, 28, 43, 44, 61, 62, 76, 86]) 39 [] Tryd.f26 = some d_query_parser_elem := by kernel_rfl
theorem c_query_parser_cond : compMay Tryd.prog (plans []) (isMay [13, 24, 26, 27, 28, 43, 44, 61, 62, 76, 86]) 39 [] Tryd.f27 = some d_query_parser_cond := by kernel_rfl
theorem c_query_parser_kind : compMay Tryd.prog (plans []) (isMay [13, 24, 26, 27, 28, 43, 44, 61, 62, 76, 86]) 39 [] Tryd.f28 = some d_query_parser_kind := by kernel_rfl
theorem c_strings_Contains : compFn Tryd.prog (drawOf Tryd.prog Tryd.f29.ntmps (plans [])) [] false true Tryd.f29 = some { d_strings_Contains with sha := false } := by kernel_rfl
theorem c_query_Sound : compFn Tryd.prog (drawOf Tryd.prog Tryd.f31.ntmps (plans [])) [[3, 8, 9, 10]] false true Tryd.f31 = some { d_query_Sound with sha := false } := by kernel_rfl
theorem c_query_text_1 : compFn Tryd.prog (drawOf Tryd.prog Tryd.f33.ntmps (plans [])) [] false false Tryd.f33 = some { d_query_text_1 with sha := false } := by kernel_rfl
theorem c_query_text_2 : compFn Tryd.prog (drawOf Tryd.prog Tryd.f34.ntmps (plans [(1, [0, 2, 4, 5, 1, 3, 6, 7]), (2, [0, 1, 4, 7, 8, 9, 12, 2, 3, 5, 6, 10, 11, 13, 14])])) [] false false Tryd.f34 = some { d_query_text_2 with sha := false } := by kernel_rfl
theorem c_query_part_in : compFn Tryd.prog (drawOf Tryd.prog Tryd.f35.ntmps (plans [])) [] false true Tryd.f35 = some { d_query_part_in with sha := false } := by kernel_rfl
theorem c_strconv_FormatInt : compFn Tryd.prog (drawOf Tryd.prog Tryd.f36.ntmps (plans [])) [] false false Tryd.f36 = some { d_strconv_FormatInt with sha := false } := by kernel_rfl
theorem c_internal_strconv_Itoa : compFn Tryd.prog (drawOf Tryd.prog Tryd.f37.ntmps (plans [])) [] false false Tryd.f37 = some { d_internal_strconv_Itoa with sha := false } := by kernel_rfl
theorem c_strings_IndexByte : compFn Tryd.prog (drawOf Tryd.prog Tryd.f38.ntmps (plans [])) [] false true Tryd.f38 = some { d_strings_IndexByte with sha := false } := by kernel_rfl
theorem c_lex_Each_1 : compFn Tryd.prog (drawOf Tryd.prog Tryd.f39.ntmps (plans [])) [[0, 1, 3]] false false Tryd.f39 = some { d_lex_Each_1 with sha := false } := by kernel_rfl
theorem c_lex_next : compFn Tryd.prog (drawOf Tryd.prog Tryd.f40.ntmps (plans [])) [] false true Tryd.f40 = some { d_lex_next with sha := false } := by kernel_rfl
theorem c_query_parser_at : compFn Tryd.prog (drawOf Tryd.prog Tryd.f41.ntmps (plans [])) [] false true Tryd.f41 = some { d_query_parser_at with sha := false } := by kernel_rfl
theorem c_query_parser_is : compFn Tryd.prog (drawOf Tryd.prog Tryd.f42.ntmps (plans [])) [] false true Tryd.f42 = some { d_query_parser_is with sha := false } := by kernel_rfl
theorem c_query_parser_sum : compMay Tryd.prog (plans []) (isMay [13, 24, 26, 27, 28, 43, 44, 61, 62, 76, 86]) 39 [] Tryd.f43 = some d_query_parser_sum := by kernel_rfl
theorem c_query_parser_pick : compMay Tryd.prog (plans []) (isMay [13, 24, 26, 27, 28, 43, 44, 61, 62, 76, 86]) 39 [] Tryd.f44 = some d_query_parser_pick := by kernel_rfl
theorem c_query_row_now : compFn Tryd.prog (drawOf Tryd.prog Tryd.f45.ntmps (plans [(1, [0, 1, 2, 3, 4, 5, 6, 7, 8, 9]), (2, [0, 1, 2, 3, 4, 5, 6, 7, 8, 9, 10, 11])])) [] false true Tryd.f45 = some { d_query_row_now with sha := false } := by kernel_rfl
theorem c_strings_Index : compFn Tryd.prog (drawOf Tryd.prog Tryd.f46.ntmps (plans [])) [] false true Tryd.f46 = some { d_strings_Index with sha := false } := by kernel_rfl
theorem c_query_takes : compFn Tryd.prog (drawOf Tryd.prog Tryd.f49.ntmps (plans [(11, [0, 1, 2, 3, 4]), (15, [0, 1, 2, 3, 4, 5, 6, 7, 8, 9, 10, 11, 12, 13, 14])])) [] false true Tryd.f49 = some { d_query_takes with sha := false } := by kernel_rfl
theorem c_internal_strconv_FormatInt : compFn Tryd.prog (drawOf Tryd.prog Tryd.f51.ntmps (plans [])) [] false false Tryd.f51 = some { d_internal_strconv_FormatInt with sha := false } := by kernel_rfl
theorem c_internal_stringslite_IndexByte : compFn Tryd.prog (drawOf Tryd.prog Tryd.f52.ntmps (plans [])) [] false true Tryd.f52 = some { d_internal_stringslite_IndexByte with sha := false } := by kernel_rfl
theorem c_lex_next_1 : compFn Tryd.prog (drawOf Tryd.prog Tryd.f53.ntmps (plans [])) [] false true Tryd.f53 = some { d_lex_next_1 with sha := false } := by kernel_rfl
theorem c_lex_small : compFn Tryd.prog (drawOf Tryd.prog Tryd.f54.ntmps (plans [])) [] false true Tryd.f54 = some { d_lex_small with sha := false } := by kernel_rfl
theorem c_lex_digit : compFn Tryd.prog (drawOf Tryd.prog Tryd.f55.ntmps (plans [])) [] false true Tryd.f55 = some { d_lex_digit with sha := false } := by kernel_rfl
theorem c_lex_run : compFn Tryd.prog (drawOf Tryd.prog Tryd.f56.ntmps (plans [])) [[0, 1, 5]] false true Tryd.f56 = some { d_lex_run with sha := false } := by kernel_rfl
theorem c_lex_number : compFn Tryd.prog (drawOf Tryd.prog Tryd.f57.ntmps (plans [])) [[4, 9, 10, 11]] false true Tryd.f57 = some { d_lex_number with sha := false } := by kernel_rfl
theorem c_lex_ends : compFn Tryd.prog (drawOf Tryd.prog Tryd.f58.ntmps (plans [])) [] false true Tryd.f58 = some { d_lex_ends with sha := false } := by kernel_rfl
theorem c_lex_letter : compFn Tryd.prog (drawOf Tryd.prog Tryd.f59.ntmps (plans [])) [] false true Tryd.f59 = some { d_lex_letter with sha := false } := by kernel_rfl
theorem c_lex_sign : compFn Tryd.prog (drawOf Tryd.prog Tryd.f60.ntmps (plans [])) [] false true Tryd.f60 = some { d_lex_sign with sha := false } := by kernel_rfl
theorem c_query_parser_chain : compMay Tryd.prog (plans []) (isMay [13, 24, 26, 27, 28, 43, 44, 61, 62, 76, 86]) 39 [[0, 1, 2, 3, 9]] Tryd.f61 = some d_query_parser_chain := by kernel_rfl
theorem c_query_parser_product : compMay Tryd.prog (plans []) (isMay [13, 24, 26, 27, 28, 43, 44, 61, 62, 76, 86]) 39 [] Tryd.f62 = some d_query_parser_product := by kernel_rfl
theorem c_slices_IndexFunc_77 : compFn Tryd.prog (drawOf Tryd.prog Tryd.f63.ntmps (plans [])) [[0, 1, 7, 8]] false false Tryd.f63 = some { d_slices_IndexFunc_77 with sha := false } := by kernel_rfl
theorem c_internal_stringslite_Index : compFn Tryd.prog (drawOf Tryd.prog Tryd.f64.ntmps (plans [])) [[0, 1, 5, 6, 7, 8, 9, 10]] false true Tryd.f64 = some { d_internal_stringslite_Index with sha := false } := by kernel_rfl
theorem c_internal_strconv_small : compFn Tryd.prog (drawOf Tryd.prog Tryd.f71.ntmps (plans [])) [] false false Tryd.f71 = some { d_internal_strconv_small with sha := false } := by kernel_rfl
theorem c_query_parser_unary : compMay Tryd.prog (plans []) (isMay [13, 24, 26, 27, 28, 43, 44, 61, 62, 76, 86]) 39 [] Tryd.f76 = some d_query_parser_unary := by kernel_rfl
theorem c_internal_bytealg_Cutover : compFn Tryd.prog (drawOf Tryd.prog Tryd.f78.ntmps (plans [])) [] false true Tryd.f78 = some { d_internal_bytealg_Cutover with sha := false } := by kernel_rfl
theorem c_internal_bytealg_IndexRabinKarp : compFn Tryd.prog (drawOf Tryd.prog Tryd.f79.ntmps (plans [])) [[0, 1, 5, 6, 7, 8, 9], [0, 1, 5, 6, 7, 8, 10]] false true Tryd.f79 = some { d_internal_bytealg_IndexRabinKarp with sha := false } := by kernel_rfl
theorem c_query_parser_within : compMay Tryd.prog (plans []) (isMay [13, 24, 26, 27, 28, 43, 44, 61, 62, 76, 86]) 39 [] Tryd.f86 = some d_query_parser_within := by kernel_rfl
theorem c_internal_bytealg_hashStr : compFn Tryd.prog (drawOf Tryd.prog Tryd.f87.ntmps (plans [])) [[0, 4, 5], [4, 6, 7, 8]] false true Tryd.f87 = some { d_internal_bytealg_hashStr with sha := false } := by kernel_rfl
omit [Mx] in
theorem mixed : Tryd.prog.follows .mixedOrders = true := by kernel_rfl
theorem k_sibyllaw03_QueryNest : FnOK Tryd.prog n_sibyllaw03_QueryNest d_sibyllaw03_QueryNest := fnOK mixed Tryd.func3 (by kernel_rfl) c_sibyllaw03_QueryNest
theorem k_sibyllaw03_awake : FnOK Tryd.prog n_sibyllaw03_awake d_sibyllaw03_awake := fnOK mixed Tryd.func5 (by kernel_rfl) c_sibyllaw03_awake
theorem k_query_Parse : FnOK Tryd.prog n_query_Parse d_query_Parse := catchMOK (s := ⟨12, [], [(.t 2), (.t 3), (.t 4)], 9999⟩) mixed Tryd.func6 (by kernel_rfl) Tryd.func12 (by kernel_rfl) (by kernel_rfl) c_query_Parse rfl rfl
theorem k_query_Name : FnOK Tryd.prog n_query_Name d_query_Name := fnOK mixed Tryd.func8 (by kernel_rfl) c_query_Name
theorem k_query_Print : FnOK Tryd.prog n_query_Print d_query_Print := fnOK mixed Tryd.func10 (by kernel_rfl) c_query_Print
theorem k_lex_Lex : FnOK Tryd.prog n_lex_Lex d_lex_Lex := fnOK mixed Tryd.func11 (by kernel_rfl) c_lex_Lex
theorem k_Parse1_e : FnOK Tryd.prog n_Parse1_e d_Parse1_e := endOK mixed Tryd.func12 c_Parse1_e (by kernel_rfl)
theorem k_Parse1_p : FnOK Tryd.prog n_Parse1_p d_Parse1_p := panOK mixed Tryd.func12 c_Parse1_p (by kernel_rfl)
theorem k_query_parser_query : FnOK Tryd.prog n_query_parser_query d_query_parser_query := mayOK mixed Tryd.func13 (by kernel_rfl) c_query_parser_query (by kernel_rfl)
theorem k_query_keyword : FnOK Tryd.prog n_query_keyword d_query_keyword := fnOK mixed Tryd.func14 (by kernel_rfl) c_query_keyword
theorem k_query_printable : FnOK Tryd.prog n_query_printable d_query_printable := fnOK mixed Tryd.func17 (by kernel_rfl) c_query_printable
theorem k_strings_Builder_WriteString : FnOK Tryd.prog n_strings_Builder_WriteString d_strings_Builder_WriteString := bwOK Tryd.func18 (by kernel_rfl) (by kernel_rfl) c_strings_Builder_WriteString (by kernel_rfl)
theorem k_query_text : FnOK Tryd.prog n_query_text d_query_text := fnOK mixed Tryd.func19 (by kernel_rfl) c_query_text
theorem k_strconv_Itoa : FnOK Tryd.prog n_strconv_Itoa d_strconv_Itoa := fnOK mixed Tryd.func20 (by kernel_rfl) c_strconv_Itoa
theorem k_strings_Builder_String : FnOK Tryd.prog n_strings_Builder_String d_strings_Builder_String := bsOK Tryd.func21 (by kernel_rfl) (by kernel_rfl) c_strings_Builder_String (by kernel_rfl)
theorem k_lex_skip : FnOK Tryd.prog n_lex_skip d_lex_skip := fnOK mixed Tryd.func22 (by kernel_rfl) c_lex_skip
theorem k_lex_Each : FnOK Tryd.prog n_lex_Each d_lex_Each := fnOK mixed Tryd.func23 (by kernel_rfl) c_lex_Each
theorem k_query_parser_must : FnOK Tryd.prog n_query_parser_must d_query_parser_must := mayOK mixed Tryd.func24 (by kernel_rfl) c_query_parser_must (by kernel_rfl)
theorem k_query_parser_may : FnOK Tryd.prog n_query_parser_may d_query_parser_may := fnOK mixed Tryd.func25 (by kernel_rfl) c_query_parser_may
theorem k_query_parser_elem : FnOK Tryd.prog n_query_parser_elem d_query_parser_elem := mayOK mixed Tryd.func26 (by kernel_rfl) c_query_parser_elem (by kernel_rfl)
theorem k_query_parser_cond : FnOK Tryd.prog n_query_parser_cond d_query_parser_cond := mayOK mixed Tryd.func27 (by kernel_rfl) c_query_parser_cond (by kernel_rfl)
theorem k_query_parser_kind : FnOK Tryd.prog n_query_parser_kind d_query_parser_kind := mayOK mixed Tryd.func28 (by kernel_rfl) c_query_parser_kind (by kernel_rfl)
theorem k_strings_Contains : FnOK Tryd.prog n_strings_Contains d_strings_Contains := fnOK mixed Tryd.func29 (by kernel_rfl) c_strings_Contains
theorem k_query_Sound : FnOK Tryd.prog n_query_Sound d_query_Sound := fnOK mixed Tryd.func31 (by kernel_rfl) c_query_Sound
theorem k_query_text_1 : FnOK Tryd.prog n_query_text_1 d_query_text_1 := fnOK mixed Tryd.func33 (by kernel_rfl) c_query_text_1
theorem k_query_text_2 : FnOK Tryd.prog n_query_text_2 d_query_text_2 := fnOK mixed Tryd.func34 (by kernel_rfl) c_query_text_2
theorem k_query_part_in : FnOK Tryd.prog n_query_part_in d_query_part_in := fnOK mixed Tryd.func35 (by kernel_rfl) c_query_part_in
theorem k_strconv_FormatInt : FnOK Tryd.prog n_strconv_FormatInt d_strconv_FormatInt := fnOK mixed Tryd.func36 (by kernel_rfl) c_strconv_FormatInt
theorem k_internal_strconv_Itoa : FnOK Tryd.prog n_internal_strconv_Itoa d_internal_strconv_Itoa := fnOK mixed Tryd.func37 (by kernel_rfl) c_internal_strconv_Itoa
theorem k_strings_IndexByte : FnOK Tryd.prog n_strings_IndexByte d_strings_IndexByte := fnOK mixed Tryd.func38 (by kernel_rfl) c_strings_IndexByte
theorem k_lex_Each_1 : FnOK Tryd.prog n_lex_Each_1 d_lex_Each_1 := fnOK mixed Tryd.func39 (by kernel_rfl) c_lex_Each_1
theorem k_lex_next : FnOK Tryd.prog n_lex_next d_lex_next := fnOK mixed Tryd.func40 (by kernel_rfl) c_lex_next
theorem k_query_parser_at : FnOK Tryd.prog n_query_parser_at d_query_parser_at := fnOK mixed Tryd.func41 (by kernel_rfl) c_query_parser_at
theorem k_query_parser_is : FnOK Tryd.prog n_query_parser_is d_query_parser_is := fnOK mixed Tryd.func42 (by kernel_rfl) c_query_parser_is
theorem k_query_parser_sum : FnOK Tryd.prog n_query_parser_sum d_query_parser_sum := mayOK mixed Tryd.func43 (by kernel_rfl) c_query_parser_sum (by kernel_rfl)
theorem k_query_parser_pick : FnOK Tryd.prog n_query_parser_pick d_query_parser_pick := mayOK mixed Tryd.func44 (by kernel_rfl) c_query_parser_pick (by kernel_rfl)
theorem k_query_row_now : FnOK Tryd.prog n_query_row_now d_query_row_now := fnOK mixed Tryd.func45 (by kernel_rfl) c_query_row_now
theorem k_strings_Index : FnOK Tryd.prog n_strings_Index d_strings_Index := fnOK mixed Tryd.func46 (by kernel_rfl) c_strings_Index
theorem k_query_takes : FnOK Tryd.prog n_query_takes d_query_takes := fnOK mixed Tryd.func49 (by kernel_rfl) c_query_takes
theorem k_internal_strconv_FormatInt : FnOK Tryd.prog n_internal_strconv_FormatInt d_internal_strconv_FormatInt := fnOK mixed Tryd.func51 (by kernel_rfl) c_internal_strconv_FormatInt
theorem k_internal_stringslite_IndexByte : FnOK Tryd.prog n_internal_stringslite_IndexByte d_internal_stringslite_IndexByte := fnOK mixed Tryd.func52 (by kernel_rfl) c_internal_stringslite_IndexByte
theorem k_lex_next_1 : FnOK Tryd.prog n_lex_next_1 d_lex_next_1 := fnOK mixed Tryd.func53 (by kernel_rfl) c_lex_next_1
theorem k_lex_small : FnOK Tryd.prog n_lex_small d_lex_small := fnOK mixed Tryd.func54 (by kernel_rfl) c_lex_small
theorem k_lex_digit : FnOK Tryd.prog n_lex_digit d_lex_digit := fnOK mixed Tryd.func55 (by kernel_rfl) c_lex_digit
theorem k_lex_run : FnOK Tryd.prog n_lex_run d_lex_run := fnOK mixed Tryd.func56 (by kernel_rfl) c_lex_run
theorem k_lex_number : FnOK Tryd.prog n_lex_number d_lex_number := fnOK mixed Tryd.func57 (by kernel_rfl) c_lex_number
theorem k_lex_ends : FnOK Tryd.prog n_lex_ends d_lex_ends := fnOK mixed Tryd.func58 (by kernel_rfl) c_lex_ends
theorem k_lex_letter : FnOK Tryd.prog n_lex_letter d_lex_letter := fnOK mixed Tryd.func59 (by kernel_rfl) c_lex_letter
theorem k_lex_sign : FnOK Tryd.prog n_lex_sign d_lex_sign := fnOK mixed Tryd.func60 (by kernel_rfl) c_lex_sign
theorem k_query_parser_chain : FnOK Tryd.prog n_query_parser_chain d_query_parser_chain := mayOK mixed Tryd.func61 (by kernel_rfl) c_query_parser_chain (by kernel_rfl)
theorem k_query_parser_product : FnOK Tryd.prog n_query_parser_product d_query_parser_product := mayOK mixed Tryd.func62 (by kernel_rfl) c_query_parser_product (by kernel_rfl)
theorem k_slices_IndexFunc_77 : FnOK Tryd.prog n_slices_IndexFunc_77 d_slices_IndexFunc_77 := fnOK mixed Tryd.func63 (by kernel_rfl) c_slices_IndexFunc_77
theorem k_internal_stringslite_Index : FnOK Tryd.prog n_internal_stringslite_Index d_internal_stringslite_Index := fnOK mixed Tryd.func64 (by kernel_rfl) c_internal_stringslite_Index
theorem k_internal_strconv_small : FnOK Tryd.prog n_internal_strconv_small d_internal_strconv_small := fnOK mixed Tryd.func71 (by kernel_rfl) c_internal_strconv_small
theorem k_query_parser_unary : FnOK Tryd.prog n_query_parser_unary d_query_parser_unary := mayOK mixed Tryd.func76 (by kernel_rfl) c_query_parser_unary (by kernel_rfl)
theorem k_internal_bytealg_Cutover : FnOK Tryd.prog n_internal_bytealg_Cutover d_internal_bytealg_Cutover := fnOK mixed Tryd.func78 (by kernel_rfl) c_internal_bytealg_Cutover
theorem k_internal_bytealg_IndexRabinKarp : FnOK Tryd.prog n_internal_bytealg_IndexRabinKarp d_internal_bytealg_IndexRabinKarp := fnOK mixed Tryd.func79 (by kernel_rfl) c_internal_bytealg_IndexRabinKarp
theorem k_query_parser_within : FnOK Tryd.prog n_query_parser_within d_query_parser_within := mayOK mixed Tryd.func86 (by kernel_rfl) c_query_parser_within (by kernel_rfl)
theorem k_internal_bytealg_hashStr : FnOK Tryd.prog n_internal_bytealg_hashStr d_internal_bytealg_hashStr := fnOK mixed Tryd.func87 (by kernel_rfl) c_internal_bytealg_hashStr
theorem progOK : @ProgOK _ (siteRel Tryd.prog) Tryd.prog prog :=
 progOK_cons k_sibyllaw03_QueryNest (progOK_cons k_sibyllaw03_awake (progOK_cons k_query_Parse (progOK_cons k_query_Name (progOK_cons k_query_Print (progOK_cons k_lex_Lex (progOK_cons k_Parse1_e (progOK_cons k_Parse1_p (progOK_cons k_query_parser_query (progOK_cons k_query_keyword (progOK_cons k_query_printable (progOK_cons k_strings_Builder_WriteString (progOK_cons k_query_text (progOK_cons k_strconv_Itoa (progOK_cons k_strings_Builder_String (progOK_cons k_lex_skip (progOK_cons k_lex_Each (progOK_cons k_query_parser_must (progOK_cons k_query_parser_may (progOK_cons k_query_parser_elem (progOK_cons k_query_parser_cond (progOK_cons k_query_parser_kind (progOK_cons k_strings_Contains (progOK_cons k_query_Sound (progOK_cons k_query_text_1 (progOK_cons k_query_text_2 (progOK_cons k_query_part_in (progOK_cons k_strconv_FormatInt (progOK_cons k_internal_strconv_Itoa (progOK_cons k_strings_IndexByte (progOK_cons k_lex_Each_1 (progOK_cons k_lex_next (progOK_cons k_query_parser_at (progOK_cons k_query_parser_is (progOK_cons k_query_parser_sum (progOK_cons k_query_parser_pick (progOK_cons k_query_row_now (progOK_cons k_strings_Index (progOK_cons k_query_takes (progOK_cons k_internal_strconv_FormatInt (progOK_cons k_internal_stringslite_IndexByte (progOK_cons k_lex_next_1 (progOK_cons k_lex_small (progOK_cons k_lex_digit (progOK_cons k_lex_run (progOK_cons k_lex_number (progOK_cons k_lex_ends (progOK_cons k_lex_letter (progOK_cons k_lex_sign (progOK_cons k_query_parser_chain (progOK_cons k_query_parser_product (progOK_cons k_slices_IndexFunc_77 (progOK_cons k_internal_stringslite_Index (progOK_cons k_internal_strconv_small (progOK_cons k_query_parser_unary (progOK_cons k_internal_bytealg_Cutover (progOK_cons k_internal_bytealg_IndexRabinKarp (progOK_cons k_query_parser_within (progOK_cons k_internal_bytealg_hashStr (progOK_nil _)))))))))))))))))))))))))))))))))))))))))))))))))))))))))))
theorem callOK : @CallOK _ (siteRel Tryd.prog) Tryd.prog C0 := calls_ok mixed progOK rfl
end Go.Proofs.YtalodgghnpnnkaaDoor.bind
