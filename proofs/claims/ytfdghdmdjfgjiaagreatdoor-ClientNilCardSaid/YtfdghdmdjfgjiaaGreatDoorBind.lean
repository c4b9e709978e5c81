/- Each function of D's list is the program's function of that number: D's calls are the model's. No condition. -/
import Derived.Test.YtfdghdmdjfgjiaaGreatDoorRows
import Derived.Test.YtfdghdmdjfgjiaaGreatDoorP
import Derived.KernelRfl
namespace Go.Proofs.YtfdghdmdjfgjiaaGreatDoor.bind
open Go Dk Dk.C
theorem c_ClientNil : compFn Tryz.prog (drawOf Tryz.prog Tryz.f3.ntmps (plans [])) [] false true Tryz.f3 = some { d_ClientNil with sha := false } := by kernel_rfl
theorem c_sibyllaw20_awake : compFn Tryz.prog (drawOf Tryz.prog Tryz.f6.ntmps (plans [])) [[1, 2, 3]] false true Tryz.f6 = some { d_sibyllaw20_awake with sha := false } := by kernel_rfl
theorem c_client_New : compFn Tryz.prog (drawOf Tryz.prog Tryz.f7.ntmps (plans [])) [] false false Tryz.f7 = some { d_client_New with sha := false } := by kernel_rfl
theorem c_call : compFn Tryz.prog (drawOf Tryz.prog Tryz.f8.ntmps (plans [(10, [0, 1, 2, 3, 4, 5, 6, 7])])) [] false true Tryz.f8 = some { d_call with sha := false } := by kernel_rfl
theorem c_client_Client_Step : compFn Tryz.prog (drawOf Tryz.prog Tryz.f9.ntmps (plans [])) [] false false Tryz.f9 = some { d_client_Client_Step with sha := false } := by kernel_rfl
theorem c_client_Client_Done : compFn Tryz.prog (drawOf Tryz.prog Tryz.f10.ntmps (plans [])) [] false false Tryz.f10 = some { d_client_Client_Done with sha := false } := by kernel_rfl
theorem c_client_Client_Answer : compFn Tryz.prog (drawOf Tryz.prog Tryz.f11.ntmps (plans [])) [] false false Tryz.f11 = some { d_client_Client_Answer with sha := false } := by kernel_rfl
theorem c_client_Client_Stamp : compFn Tryz.prog (drawOf Tryz.prog Tryz.f12.ntmps (plans [])) [] false false Tryz.f12 = some { d_client_Client_Stamp with sha := false } := by kernel_rfl
theorem c_log_New : compFn Tryz.prog (drawOf Tryz.prog Tryz.f13.ntmps (plans [(3, [0, 1, 2, 4, 5, 6, 9, 10, 12, 13, 14, 15, 3, 7, 8, 11, 16, 17, 18]), (6, [0, 1, 2, 3, 4, 5, 6, 7, 8, 9, 10, 11, 12])])) [[1, 3, 26, 27]] false false Tryz.f13 = some { d_log_New with sha := false } := by kernel_rfl
theorem c_sibyllaw20_rest : compFn Tryz.prog (drawOf Tryz.prog Tryz.f14.ntmps (plans [])) [] false true Tryz.f14 = some { d_sibyllaw20_rest with sha := false } := by kernel_rfl
theorem c_log_Log_Tail : compFn Tryz.prog (drawOf Tryz.prog Tryz.f15.ntmps (plans [(3, [0, 1, 2, 3, 4, 5, 6, 7, 8, 9])])) [] false false Tryz.f15 = some { d_log_Log_Tail with sha := false } := by kernel_rfl
theorem c_log_Log_Store : compFn Tryz.prog (drawOf Tryz.prog Tryz.f16.ntmps (plans [])) [] false false Tryz.f16 = some { d_log_Log_Store with sha := false } := by kernel_rfl
theorem c_store_Store_Used : compFn Tryz.prog (drawOf Tryz.prog Tryz.f17.ntmps (plans [])) [] false false Tryz.f17 = some { d_store_Store_Used with sha := false } := by kernel_rfl
theorem c_log_Log_Take : compFn Tryz.prog (drawOf Tryz.prog Tryz.f19.ntmps (plans [(1, [0, 1, 2, 3, 4, 5, 6, 7, 8, 9, 10, 11, 12, 13, 14, 15, 16, 17, 18, 19, 20, 21, 22, 25, 26, 27, 28, 29, 30, 23, 24, 31, 32, 33, 34, 35, 36, 37, 38, 39, 40, 41])])) [] false false Tryz.f19 = some { d_log_Log_Take with sha := false } := by kernel_rfl
theorem c_log_Log_Fill : compFn Tryz.prog (drawOf Tryz.prog Tryz.f20.ntmps (plans [(1, [0, 1, 2, 3, 4, 5, 6, 7, 8, 9, 10, 11, 12, 13, 14, 15, 16, 17, 18, 19])])) [] false false Tryz.f20 = some { d_log_Log_Fill with sha := false } := by kernel_rfl
theorem c_log_Log_Post : compFn Tryz.prog (drawOf Tryz.prog Tryz.f21.ntmps (plans [(5, [0, 1, 2, 3, 4, 5, 6, 7, 8, 9])])) [] false false Tryz.f21 = some { d_log_Log_Post with sha := false } := by kernel_rfl
theorem c_log_Log_Reply : compFn Tryz.prog (drawOf Tryz.prog Tryz.f22.ntmps (plans [(7, [0, 1, 2, 3, 4, 5, 6])])) [[7, 43, 44, 45]] false false Tryz.f22 = some { d_log_Log_Reply with sha := false } := by kernel_rfl
theorem c_log_Log_Low : compFn Tryz.prog (drawOf Tryz.prog Tryz.f23.ntmps (plans [])) [] false false Tryz.f23 = some { d_log_Log_Low with sha := false } := by kernel_rfl
theorem c_client_Client_look : compFn Tryz.prog (drawOf Tryz.prog Tryz.f24.ntmps (plans [])) [] false false Tryz.f24 = some { d_client_Client_look with sha := false } := by kernel_rfl
theorem c_client_Read : compFn Tryz.prog (drawOf Tryz.prog Tryz.f25.ntmps (plans [])) [] false false Tryz.f25 = some { d_client_Read with sha := false } := by kernel_rfl
theorem c_client_Client_end : compFn Tryz.prog (drawOf Tryz.prog Tryz.f26.ntmps (plans [])) [] false false Tryz.f26 = some { d_client_Client_end with sha := false } := by kernel_rfl
theorem c_rPrint : compFn Tryz.prog (drawOf Tryz.prog Tryz.f27.ntmps (plans [(24, [0, 1, 2, 3, 4, 5, 6, 9, 10, 11, 12, 13, 14, 15, 16, 17, 19, 20, 21, 22, 23, 24, 7, 8, 18, 25, 26, 27])])) [[1, 4, 5], [1, 4, 7, 8]] false true Tryz.f27 = some { d_rPrint with sha := false } := by kernel_rfl
theorem c_Made : compFn Tryz.prog (drawOf Tryz.prog Tryz.f28.ntmps (plans [(12, [0, 2, 3, 4, 6, 1, 5, 7]), (25, [0, 1, 2, 4, 5, 6, 7, 3, 8, 9]), (31, [0, 1, 2, 5, 6, 8, 9, 3, 4, 7, 10, 11, 12, 13, 14, 15]), (34, [0, 1, 2, 5, 6, 7, 8, 9, 10, 3, 4, 11, 12, 13, 14, 15, 16, 17, 18, 19])])) [[2, 3, 4, 5, 6, 7, 8, 9], [2, 3, 4, 5, 6, 7, 8, 12], [2, 3, 4, 5, 6, 7, 8, 12, 13, 14]] true true Tryz.f28 = some { d_Made with sha := false } := by kernel_rfl
theorem c_Events : compFn Tryz.prog (drawOf Tryz.prog Tryz.f29.ntmps (plans [])) [[0, 1, 5, 6]] true true Tryz.f29 = some { d_Events with sha := false } := by kernel_rfl
theorem c_log_Right : compFn Tryz.prog (drawOf Tryz.prog Tryz.f30.ntmps (plans [])) [[1, 15, 16]] false false Tryz.f30 = some { d_log_Right with sha := false } := by kernel_rfl
theorem c_store_New : compFn Tryz.prog (drawOf Tryz.prog Tryz.f31.ntmps (plans [])) [] false false Tryz.f31 = some { d_store_New with sha := false } := by kernel_rfl
theorem c_epoch_New : compFn Tryz.prog (drawOf Tryz.prog Tryz.f32.ntmps (plans [])) [[3, 14]] false false Tryz.f32 = some { d_epoch_New with sha := false } := by kernel_rfl
theorem c_ring_New : compFn Tryz.prog (drawOf Tryz.prog Tryz.f33.ntmps (plans [])) [] false false Tryz.f33 = some { d_ring_New with sha := false } := by kernel_rfl
theorem c_ring_New_34 : compFn Tryz.prog (drawOf Tryz.prog Tryz.f34.ntmps (plans [])) [] false false Tryz.f34 = some { d_ring_New_34 with sha := false } := by kernel_rfl
theorem c_ring_Ring_Put : compFn Tryz.prog (drawOf Tryz.prog Tryz.f35.ntmps (plans [])) [] false false Tryz.f35 = some { d_ring_Ring_Put with sha := false } := by kernel_rfl
theorem c_log_Log_Cursor : compFn Tryz.prog (drawOf Tryz.prog Tryz.f36.ntmps (plans [])) [] false false Tryz.f36 = some { d_log_Log_Cursor with sha := false } := by kernel_rfl
theorem c_log_Log_Look : compFn Tryz.prog (drawOf Tryz.prog Tryz.f37.ntmps (plans [])) [] false false Tryz.f37 = some { d_log_Log_Look with sha := false } := by kernel_rfl
theorem c_ring_Ring_Put_38 : compFn Tryz.prog (drawOf Tryz.prog Tryz.f38.ntmps (plans [])) [] false false Tryz.f38 = some { d_ring_Ring_Put_38 with sha := false } := by kernel_rfl
theorem c_log_Log_Collect : compFn Tryz.prog (drawOf Tryz.prog Tryz.f39.ntmps (plans [(1, [0, 1, 7, 2, 3, 4, 5, 6, 8, 9])])) [[1, 7, 37, 38, 39]] false false Tryz.f39 = some { d_log_Log_Collect with sha := false } := by kernel_rfl
theorem c_ring_Ring_Drop : compFn Tryz.prog (drawOf Tryz.prog Tryz.f40.ntmps (plans [])) [] false false Tryz.f40 = some { d_ring_Ring_Drop with sha := false } := by kernel_rfl
theorem c_ring_Ring_Drop_41 : compFn Tryz.prog (drawOf Tryz.prog Tryz.f41.ntmps (plans [])) [] false false Tryz.f41 = some { d_ring_Ring_Drop_41 with sha := false } := by kernel_rfl
theorem c_ring_Ring_Low : compFn Tryz.prog (drawOf Tryz.prog Tryz.f42.ntmps (plans [])) [] false false Tryz.f42 = some { d_ring_Ring_Low with sha := false } := by kernel_rfl
theorem c_log_Log_Config : compFn Tryz.prog (drawOf Tryz.prog Tryz.f43.ntmps (plans [])) [] false false Tryz.f43 = some { d_log_Log_Config with sha := false } := by kernel_rfl
theorem c_client_Client_room : compFn Tryz.prog (drawOf Tryz.prog Tryz.f44.ntmps (plans [(1, [0, 1, 2, 3, 4, 5, 6, 7, 10, 11, 12, 13, 8, 9, 14, 15, 16, 17])])) [] false false Tryz.f44 = some { d_client_Client_room with sha := false } := by kernel_rfl
theorem c_query_Parse : compCatchM Tryz.prog (plans [(3, [0, 1, 2, 3, 4, 5])]) (isMay [63, 78, 80, 82]) 161 ⟨62, [], [(.t 2), (.t 3), (.t 4)], 9999⟩ [] false Tryz.f45 = some d_query_Parse := by kernel_rfl
theorem c_Printable : compFn Tryz.prog (drawOf Tryz.prog Tryz.f47.ntmps (plans [])) [[1, 3], [1, 5]] false true Tryz.f47 = some { d_Printable with sha := false } := by kernel_rfl
theorem c_Text : compFn Tryz.prog (drawOf Tryz.prog Tryz.f48.ntmps (plans [(17, [0, 1, 2, 3, 4, 5, 6, 7, 8, 9, 10, 11]), (21, [0, 1, 2, 5, 6, 7, 3, 4, 8, 9, 10, 11]), (23, [0, 1, 2, 5, 6, 7, 3, 4, 8, 9, 10, 11]), (25, [0, 1, 2, 5, 6, 7, 3, 4, 8, 9, 10, 11]), (27, [0, 1, 2, 5, 6, 7, 3, 4, 8, 9, 10, 11]), (11, [0, 1, 2, 5, 6, 7, 3, 4, 8, 9, 10, 11]), (28, [0, 1, 3, 4, 2, 5, 6])])) [[0, 3, 4]] false true Tryz.f48 = some { d_Text with sha := false } := by kernel_rfl
theorem c_digits : compFn Tryz.prog (drawOf Tryz.prog Tryz.f49.ntmps (plans [])) [[0, 3]] false true Tryz.f49 = some { d_digits with sha := false } := by kernel_rfl
theorem c_Next : compFn Tryz.prog (drawOf Tryz.prog Tryz.f50.ntmps (plans [(1, [0, 1, 2, 3, 4, 5, 6, 7, 8, 9]), (4, [0, 1, 2, 3, 4, 5, 6, 7, 8, 9, 10, 11, 12, 13, 14, 15, 16, 17])])) [] false false Tryz.f50 = some { d_Next with sha := false } := by kernel_rfl
theorem c_Codes : compFn Tryz.prog (drawOf Tryz.prog Tryz.f51.ntmps (plans [(3, [0, 1, 2, 3, 7, 4, 5, 6, 8, 9, 10, 11]), (13, [0, 1, 2, 3, 7, 4, 5, 6, 8, 9, 10, 11]), (16, [0, 1, 3, 4, 2, 5, 6]), (17, [0, 1, 3, 4, 2, 5, 6])])) [[0, 1, 2, 7, 8]] true false Tryz.f51 = some { d_Codes with sha := false } := by kernel_rfl
theorem c_ring_Ring_at : compFn Tryz.prog (drawOf Tryz.prog Tryz.f52.ntmps (plans [(1, [0, 1, 2, 3, 4, 5, 6, 7, 8, 9, 10, 11, 12, 13, 14, 15, 16, 17, 18, 19, 20, 21, 22, 23]), (3, [0, 1, 2, 3, 4, 5, 6, 7, 8, 9, 10, 11, 12])])) [] false false Tryz.f52 = some { d_ring_Ring_at with sha := false } := by kernel_rfl
theorem c_ring_Ring_Get : compFn Tryz.prog (drawOf Tryz.prog Tryz.f53.ntmps (plans [(5, [0, 1, 2, 3, 4, 5, 6, 7, 8, 9])])) [] false false Tryz.f53 = some { d_ring_Ring_Get with sha := false } := by kernel_rfl
theorem c_ring_Ring_at_54 : compFn Tryz.prog (drawOf Tryz.prog Tryz.f54.ntmps (plans [(1, [0, 1, 2, 3, 4, 5, 6, 7, 8, 9, 10, 11, 12, 13, 14, 15, 16, 17, 18, 19, 20, 21, 22, 23]), (3, [0, 1, 2, 3, 4, 5, 6, 7, 8, 9, 10, 11, 12])])) [] false false Tryz.f54 = some { d_ring_Ring_at_54 with sha := false } := by kernel_rfl
theorem c_log_Log_Collect_1 : compFn Tryz.prog (drawOf Tryz.prog Tryz.f55.ntmps (plans [])) [] false false Tryz.f55 = some { d_log_Log_Collect_1 with sha := false } := by kernel_rfl
theorem c_slices_ContainsFunc : compFn Tryz.prog (drawOf Tryz.prog Tryz.f56.ntmps (plans [])) [] false false Tryz.f56 = some { d_slices_ContainsFunc with sha := false } := by kernel_rfl
theorem c_ring_Ring_Get_57 : compFn Tryz.prog (drawOf Tryz.prog Tryz.f57.ntmps (plans [(5, [0, 1, 2, 3, 4, 5, 6, 7, 8, 9])])) [] false false Tryz.f57 = some { d_ring_Ring_Get_57 with sha := false } := by kernel_rfl
theorem c_ring_Ring_Low_58 : compFn Tryz.prog (drawOf Tryz.prog Tryz.f58.ntmps (plans [])) [] false false Tryz.f58 = some { d_ring_Ring_Low_58 with sha := false } := by kernel_rfl
theorem c_client_Client_slot : compFn Tryz.prog (drawOf Tryz.prog Tryz.f59.ntmps (plans [(0, [0, 1, 2, 3, 4, 5, 7, 8, 9, 10, 11, 6, 12, 13, 14, 15, 16, 17, 18, 19, 20, 21])])) [] false false Tryz.f59 = some { d_client_Client_slot with sha := false } := by kernel_rfl
theorem c_client_Client_take : compFn Tryz.prog (drawOf Tryz.prog Tryz.f60.ntmps (plans [(1, [0, 1, 2, 3, 4, 5, 6, 7, 8, 9, 10, 11, 12, 13, 14, 15])])) [] false false Tryz.f60 = some { d_client_Client_take with sha := false } := by kernel_rfl
theorem c_lex_Lex : compFn Tryz.prog (drawOf Tryz.prog Tryz.f61.ntmps (plans [(6, [0, 1, 2, 3, 4]), (10, [0, 1, 2, 3]), (11, [0, 1, 2, 3, 4, 5])])) [[1, 2, 3, 4, 5, 6]] false false Tryz.f61 = some { d_lex_Lex with sha := false } := by kernel_rfl
theorem c_query_parser_query : compMay Tryz.prog (plans [(5, [0, 1, 2, 3, 4, 5, 6, 7]), (9, [0, 1, 2, 3, 4, 5, 6, 7]), (14, [0, 1, 2, 3, 4, 5, 6, 7, 8, 9, 10, 11, 12, 13])]) (isMay [63, 78, 80, 82]) 161 [[0, 2, 3], [0, 2, 4]] Tryz.f63 = some d_query_parser_query := by kernel_rfl
theorem c_rName : compFn Tryz.prog (drawOf Tryz.prog Tryz.f68.ntmps (plans [])) [] false true Tryz.f68 = some { d_rName with sha := false } := by kernel_rfl
theorem c_rSound : compFn Tryz.prog (drawOf Tryz.prog Tryz.f69.ntmps (plans [])) [[0, 3, 4]] false true Tryz.f69 = some { d_rSound with sha := false } := by kernel_rfl
theorem c_rtakes : compFn Tryz.prog (drawOf Tryz.prog Tryz.f70.ntmps (plans [])) [] false true Tryz.f70 = some { d_rtakes with sha := false } := by kernel_rfl
theorem c_held : compFn Tryz.prog (drawOf Tryz.prog Tryz.f71.ntmps (plans [])) [] false true Tryz.f71 = some { d_held with sha := false } := by kernel_rfl
theorem c_slices_IndexFunc : compFn Tryz.prog (drawOf Tryz.prog Tryz.f72.ntmps (plans [])) [[0, 1, 7, 8]] false false Tryz.f72 = some { d_slices_IndexFunc with sha := false } := by kernel_rfl
theorem c_store_Store_Take : compFn Tryz.prog (drawOf Tryz.prog Tryz.f73.ntmps (plans [(10, [0, 1, 2, 3, 4, 5, 6, 7, 8, 9, 10, 11, 12])])) [[0, 3, 4, 6]] false false Tryz.f73 = some { d_store_Store_Take with sha := false } := by kernel_rfl
theorem c_client_Client_fill : compFn Tryz.prog (drawOf Tryz.prog Tryz.f74.ntmps (plans [(1, [0, 1, 2, 3, 4, 5, 6, 7, 8, 9, 10, 11, 12, 13, 14, 15, 16, 17, 18, 19, 20, 21, 22, 23, 24, 25])])) [] false false Tryz.f74 = some { d_client_Client_fill with sha := false } := by kernel_rfl
theorem c_client_Client_drop : compFn Tryz.prog (drawOf Tryz.prog Tryz.f75.ntmps (plans [(0, [0, 1, 2, 3, 5, 6, 7, 8, 4, 9])])) [] false false Tryz.f75 = some { d_client_Client_drop with sha := false } := by kernel_rfl
theorem c_lex_skip : compFn Tryz.prog (drawOf Tryz.prog Tryz.f76.ntmps (plans [])) [[0, 1]] false false Tryz.f76 = some { d_lex_skip with sha := false } := by kernel_rfl
theorem c_lex_Each : compFn Tryz.prog (drawOf Tryz.prog Tryz.f77.ntmps (plans [])) [] false false Tryz.f77 = some { d_lex_Each with sha := false } := by kernel_rfl
theorem c_query_parser_must : compMay Tryz.prog (plans []) (isMay [63, 78, 80, 82]) 161 [] Tryz.f78 = some d_query_parser_must := by kernel_rfl
theorem c_query_parser_may : compFn Tryz.prog (drawOf Tryz.prog Tryz.f79.ntmps (plans [])) [] false false Tryz.f79 = some { d_query_parser_may with sha := false } := by kernel_rfl
theorem c_query_parser_elem : compMay Tryz.prog (plans []) (isMay [63, 78, 80, 82]) 161 [] Tryz.f80 = some d_query_parser_elem := by kernel_rfl
theorem c_query_parser_cond : compFn Tryz.prog (drawOf Tryz.prog Tryz.f81.ntmps (plans [])) [] false false Tryz.f81 = some { d_query_parser_cond with sha := false } := by kernel_rfl
theorem c_query_parser_kind : compMay Tryz.prog (plans []) (isMay [63, 78, 80, 82]) 161 [] Tryz.f82 = some d_query_parser_kind := by kernel_rfl
theorem c_rLex : compFn Tryz.prog (drawOf Tryz.prog Tryz.f98.ntmps (plans [])) [] true true Tryz.f98 = some { d_rLex with sha := false } := by kernel_rfl
theorem c_rkeyword : compFn Tryz.prog (drawOf Tryz.prog Tryz.f99.ntmps (plans [])) [] false true Tryz.f99 = some { d_rkeyword with sha := false } := by kernel_rfl
theorem c_client_Client_wait : compFn Tryz.prog (drawOf Tryz.prog Tryz.f100.ntmps (plans [(0, [0, 1, 2, 3, 4, 5, 6, 7, 12, 8, 9, 10, 11, 13, 14]), (2, [0, 1, 2, 3, 4, 5, 6, 7, 8])])) [] false false Tryz.f100 = some { d_client_Client_wait with sha := false } := by kernel_rfl
theorem c_store_Store_Add : compFn Tryz.prog (drawOf Tryz.prog Tryz.f101.ntmps (plans [])) [] false false Tryz.f101 = some { d_store_Store_Add with sha := false } := by kernel_rfl
theorem c_client_Client_free : compFn Tryz.prog (drawOf Tryz.prog Tryz.f102.ntmps (plans [(0, [0, 1, 2, 3, 5, 6, 7, 8, 4, 9])])) [] false false Tryz.f102 = some { d_client_Client_free with sha := false } := by kernel_rfl
theorem c_strings_IndexByte : compFn Tryz.prog (drawOf Tryz.prog Tryz.f103.ntmps (plans [])) [] false false Tryz.f103 = some { d_strings_IndexByte with sha := false } := by kernel_rfl
theorem c_lex_Each_1 : compFn Tryz.prog (drawOf Tryz.prog Tryz.f104.ntmps (plans [])) [[0, 1, 3]] false false Tryz.f104 = some { d_lex_Each_1 with sha := false } := by kernel_rfl
theorem c_lex_next : compFn Tryz.prog (drawOf Tryz.prog Tryz.f105.ntmps (plans [])) [] false false Tryz.f105 = some { d_lex_next with sha := false } := by kernel_rfl
theorem c_query_parser_at : compFn Tryz.prog (drawOf Tryz.prog Tryz.f106.ntmps (plans [])) [] false false Tryz.f106 = some { d_query_parser_at with sha := false } := by kernel_rfl
theorem c_query_parser_is : compFn Tryz.prog (drawOf Tryz.prog Tryz.f107.ntmps (plans [])) [] false false Tryz.f107 = some { d_query_parser_is with sha := false } := by kernel_rfl
theorem c_query_parser_pick : compFn Tryz.prog (drawOf Tryz.prog Tryz.f109.ntmps (plans [])) [] false false Tryz.f109 = some { d_query_parser_pick with sha := false } := by kernel_rfl
theorem c_query_row_now : compFn Tryz.prog (drawOf Tryz.prog Tryz.f110.ntmps (plans [(1, [0, 1, 2, 3, 4, 5, 6, 7, 8, 9]), (2, [0, 1, 2, 3, 4, 5, 6, 7, 8, 9, 10, 11])])) [] false false Tryz.f110 = some { d_query_row_now with sha := false } := by kernel_rfl
theorem c_rEach : compFn Tryz.prog (drawOf Tryz.prog Tryz.f125.ntmps (plans [])) [[0, 2, 3]] true true Tryz.f125 = some { d_rEach with sha := false } := by kernel_rfl
theorem c_log_Log_Answer : compFn Tryz.prog (drawOf Tryz.prog Tryz.f126.ntmps (plans [])) [] false false Tryz.f126 = some { d_log_Log_Answer with sha := false } := by kernel_rfl
theorem c_store_Store_with : compFn Tryz.prog (drawOf Tryz.prog Tryz.f127.ntmps (plans [(1, [0, 1, 2, 3, 4, 5, 6, 7, 8, 9, 10, 11, 12, 13, 14, 15, 16]), (3, [0, 1, 2, 3, 4, 5, 6, 7]), (4, [0, 1, 2, 3, 4, 5, 6, 7, 8, 9, 10, 11, 12, 13, 14, 15, 16, 17, 18])])) [] false false Tryz.f127 = some { d_store_Store_with with sha := false } := by kernel_rfl
theorem c_store_Store_Add_1 : compFn Tryz.prog (drawOf Tryz.prog Tryz.f128.ntmps (plans [(1, [0, 1, 2, 3, 4, 5, 6, 7, 8, 9, 10, 11, 12, 13, 14, 15, 16, 17, 18, 19, 20, 21, 22]), (3, [0, 1, 2, 3, 4, 5, 6, 7, 8])])) [] false false Tryz.f128 = some { d_store_Store_Add_1 with sha := false } := by kernel_rfl
theorem c_store_Store_Free : compFn Tryz.prog (drawOf Tryz.prog Tryz.f129.ntmps (plans [])) [] false false Tryz.f129 = some { d_store_Store_Free with sha := false } := by kernel_rfl
theorem c_internal_stringslite_IndexByte : compFn Tryz.prog (drawOf Tryz.prog Tryz.f130.ntmps (plans [])) [] false false Tryz.f130 = some { d_internal_stringslite_IndexByte with sha := false } := by kernel_rfl
theorem c_lex_next_1 : compFn Tryz.prog (drawOf Tryz.prog Tryz.f131.ntmps (plans [])) [] false false Tryz.f131 = some { d_lex_next_1 with sha := false } := by kernel_rfl
theorem c_lex_small : compFn Tryz.prog (drawOf Tryz.prog Tryz.f132.ntmps (plans [])) [] false false Tryz.f132 = some { d_lex_small with sha := false } := by kernel_rfl
theorem c_lex_digit : compFn Tryz.prog (drawOf Tryz.prog Tryz.f133.ntmps (plans [])) [] false false Tryz.f133 = some { d_lex_digit with sha := false } := by kernel_rfl
theorem c_lex_run : compFn Tryz.prog (drawOf Tryz.prog Tryz.f134.ntmps (plans [])) [[0, 1, 5]] false false Tryz.f134 = some { d_lex_run with sha := false } := by kernel_rfl
theorem c_lex_number : compFn Tryz.prog (drawOf Tryz.prog Tryz.f135.ntmps (plans [])) [[4, 9, 10, 11]] false false Tryz.f135 = some { d_lex_number with sha := false } := by kernel_rfl
theorem c_lex_ends : compFn Tryz.prog (drawOf Tryz.prog Tryz.f136.ntmps (plans [])) [] false false Tryz.f136 = some { d_lex_ends with sha := false } := by kernel_rfl
theorem c_lex_letter : compFn Tryz.prog (drawOf Tryz.prog Tryz.f137.ntmps (plans [])) [] false false Tryz.f137 = some { d_lex_letter with sha := false } := by kernel_rfl
theorem c_lex_sign : compFn Tryz.prog (drawOf Tryz.prog Tryz.f138.ntmps (plans [])) [] false false Tryz.f138 = some { d_lex_sign with sha := false } := by kernel_rfl
theorem c_slices_IndexFunc_141 : compFn Tryz.prog (drawOf Tryz.prog Tryz.f141.ntmps (plans [])) [[0, 1, 7, 8]] false false Tryz.f141 = some { d_slices_IndexFunc_141 with sha := false } := by kernel_rfl
theorem c_rblank : compFn Tryz.prog (drawOf Tryz.prog Tryz.f155.ntmps (plans [])) [] false true Tryz.f155 = some { d_rblank with sha := false } := by kernel_rfl
theorem c_rNext : compFn Tryz.prog (drawOf Tryz.prog Tryz.f156.ntmps (plans [(13, [0, 1, 2, 3, 4, 5, 6, 7, 8, 9, 10])])) [] false true Tryz.f156 = some { d_rNext with sha := false } := by kernel_rfl
theorem c_store_Store_Free_1 : compFn Tryz.prog (drawOf Tryz.prog Tryz.f157.ntmps (plans [])) [] false false Tryz.f157 = some { d_store_Store_Free_1 with sha := false } := by kernel_rfl
theorem c_rsmall : compFn Tryz.prog (drawOf Tryz.prog Tryz.f164.ntmps (plans [])) [] false true Tryz.f164 = some { d_rsmall with sha := false } := by kernel_rfl
theorem c_rgoes : compFn Tryz.prog (drawOf Tryz.prog Tryz.f165.ntmps (plans [])) [[0, 1, 2, 7]] false true Tryz.f165 = some { d_rgoes with sha := false } := by kernel_rfl
theorem c_rdigit : compFn Tryz.prog (drawOf Tryz.prog Tryz.f166.ntmps (plans [])) [] false true Tryz.f166 = some { d_rdigit with sha := false } := by kernel_rfl
theorem c_rnumber : compFn Tryz.prog (drawOf Tryz.prog Tryz.f167.ntmps (plans [])) [[0, 2, 3, 4]] false true Tryz.f167 = some { d_rnumber with sha := false } := by kernel_rfl
theorem c_rletter : compFn Tryz.prog (drawOf Tryz.prog Tryz.f168.ntmps (plans [])) [] false true Tryz.f168 = some { d_rletter with sha := false } := by kernel_rfl
theorem c_rsign : compFn Tryz.prog (drawOf Tryz.prog Tryz.f169.ntmps (plans [(7, [0, 1, 2, 3, 4, 5, 6])])) [[0, 1, 5, 6]] false true Tryz.f169 = some { d_rsign with sha := false } := by kernel_rfl
theorem c_rcapital : compFn Tryz.prog (drawOf Tryz.prog Tryz.f176.ntmps (plans [])) [] false true Tryz.f176 = some { d_rcapital with sha := false } := by kernel_rfl
theorem c_Parse1_e : compEnd Tryz.prog (drawOf Tryz.prog Tryz.f62.ntmps (plans [(2, [0, 1, 2, 3, 4, 5, 6, 7])])) [] Tryz.f62 = some d_Parse1_e := by kernel_rfl
theorem c_Parse1_p : compPan Tryz.prog (drawOf Tryz.prog Tryz.f62.ntmps (plans [(2, [0, 1, 2, 3, 4, 5, 6, 7])])) [] Tryz.f62 = some d_Parse1_p := by kernel_rfl
theorem mixed : Tryz.prog.follows .mixedOrders = true := by kernel_rfl
theorem k_ClientNil : FnOK Tryz.prog n_ClientNil d_ClientNil := fnOK mixed Tryz.func3 (by kernel_rfl) c_ClientNil
theorem k_sibyllaw20_awake : FnOK Tryz.prog n_sibyllaw20_awake d_sibyllaw20_awake := fnOK mixed Tryz.func6 (by kernel_rfl) c_sibyllaw20_awake
theorem k_client_New : FnOK Tryz.prog n_client_New d_client_New := fnOK mixed Tryz.func7 (by kernel_rfl) c_client_New
theorem k_call : FnOK Tryz.prog n_call d_call := fnOK mixed Tryz.func8 (by kernel_rfl) c_call
theorem k_client_Client_Step : FnOK Tryz.prog n_client_Client_Step d_client_Client_Step := fnOK mixed Tryz.func9 (by kernel_rfl) c_client_Client_Step
theorem k_client_Client_Done : FnOK Tryz.prog n_client_Client_Done d_client_Client_Done := fnOK mixed Tryz.func10 (by kernel_rfl) c_client_Client_Done
theorem k_client_Client_Answer : FnOK Tryz.prog n_client_Client_Answer d_client_Client_Answer := fnOK mixed Tryz.func11 (by kernel_rfl) c_client_Client_Answer
theorem k_client_Client_Stamp : FnOK Tryz.prog n_client_Client_Stamp d_client_Client_Stamp := fnOK mixed Tryz.func12 (by kernel_rfl) c_client_Client_Stamp
theorem k_log_New : FnOK Tryz.prog n_log_New d_log_New := fnOK mixed Tryz.func13 (by kernel_rfl) c_log_New
theorem k_sibyllaw20_rest : FnOK Tryz.prog n_sibyllaw20_rest d_sibyllaw20_rest := fnOK mixed Tryz.func14 (by kernel_rfl) c_sibyllaw20_rest
theorem k_log_Log_Tail : FnOK Tryz.prog n_log_Log_Tail d_log_Log_Tail := fnOK mixed Tryz.func15 (by kernel_rfl) c_log_Log_Tail
theorem k_log_Log_Store : FnOK Tryz.prog n_log_Log_Store d_log_Log_Store := fnOK mixed Tryz.func16 (by kernel_rfl) c_log_Log_Store
theorem k_store_Store_Used : FnOK Tryz.prog n_store_Store_Used d_store_Store_Used := fnOK mixed Tryz.func17 (by kernel_rfl) c_store_Store_Used
theorem k_log_Log_Take : FnOK Tryz.prog n_log_Log_Take d_log_Log_Take := fnOK mixed Tryz.func19 (by kernel_rfl) c_log_Log_Take
theorem k_log_Log_Fill : FnOK Tryz.prog n_log_Log_Fill d_log_Log_Fill := fnOK mixed Tryz.func20 (by kernel_rfl) c_log_Log_Fill
theorem k_log_Log_Post : FnOK Tryz.prog n_log_Log_Post d_log_Log_Post := fnOK mixed Tryz.func21 (by kernel_rfl) c_log_Log_Post
theorem k_log_Log_Reply : FnOK Tryz.prog n_log_Log_Reply d_log_Log_Reply := fnOK mixed Tryz.func22 (by kernel_rfl) c_log_Log_Reply
theorem k_log_Log_Low : FnOK Tryz.prog n_log_Log_Low d_log_Log_Low := fnOK mixed Tryz.func23 (by kernel_rfl) c_log_Log_Low
theorem k_client_Client_look : FnOK Tryz.prog n_client_Client_look d_client_Client_look := fnOK mixed Tryz.func24 (by kernel_rfl) c_client_Client_look
theorem k_client_Read : FnOK Tryz.prog n_client_Read d_client_Read := fnOK mixed Tryz.func25 (by kernel_rfl) c_client_Read
theorem k_client_Client_end : FnOK Tryz.prog n_client_Client_end d_client_Client_end := fnOK mixed Tryz.func26 (by kernel_rfl) c_client_Client_end
theorem k_rPrint : FnOK Tryz.prog n_rPrint d_rPrint := fnOK mixed Tryz.func27 (by kernel_rfl) c_rPrint
theorem k_Made : FnOK Tryz.prog n_Made d_Made := fnOK mixed Tryz.func28 (by kernel_rfl) c_Made
theorem k_Events : FnOK Tryz.prog n_Events d_Events := fnOK mixed Tryz.func29 (by kernel_rfl) c_Events
theorem k_log_Right : FnOK Tryz.prog n_log_Right d_log_Right := fnOK mixed Tryz.func30 (by kernel_rfl) c_log_Right
theorem k_store_New : FnOK Tryz.prog n_store_New d_store_New := fnOK mixed Tryz.func31 (by kernel_rfl) c_store_New
theorem k_epoch_New : FnOK Tryz.prog n_epoch_New d_epoch_New := fnOK mixed Tryz.func32 (by kernel_rfl) c_epoch_New
theorem k_ring_New : FnOK Tryz.prog n_ring_New d_ring_New := fnOK mixed Tryz.func33 (by kernel_rfl) c_ring_New
theorem k_ring_New_34 : FnOK Tryz.prog n_ring_New_34 d_ring_New_34 := fnOK mixed Tryz.func34 (by kernel_rfl) c_ring_New_34
theorem k_ring_Ring_Put : FnOK Tryz.prog n_ring_Ring_Put d_ring_Ring_Put := fnOK mixed Tryz.func35 (by kernel_rfl) c_ring_Ring_Put
theorem k_log_Log_Cursor : FnOK Tryz.prog n_log_Log_Cursor d_log_Log_Cursor := fnOK mixed Tryz.func36 (by kernel_rfl) c_log_Log_Cursor
theorem k_log_Log_Look : FnOK Tryz.prog n_log_Log_Look d_log_Log_Look := fnOK mixed Tryz.func37 (by kernel_rfl) c_log_Log_Look
theorem k_ring_Ring_Put_38 : FnOK Tryz.prog n_ring_Ring_Put_38 d_ring_Ring_Put_38 := fnOK mixed Tryz.func38 (by kernel_rfl) c_ring_Ring_Put_38
theorem k_log_Log_Collect : FnOK Tryz.prog n_log_Log_Collect d_log_Log_Collect := fnOK mixed Tryz.func39 (by kernel_rfl) c_log_Log_Collect
theorem k_ring_Ring_Drop : FnOK Tryz.prog n_ring_Ring_Drop d_ring_Ring_Drop := fnOK mixed Tryz.func40 (by kernel_rfl) c_ring_Ring_Drop
theorem k_ring_Ring_Drop_41 : FnOK Tryz.prog n_ring_Ring_Drop_41 d_ring_Ring_Drop_41 := fnOK mixed Tryz.func41 (by kernel_rfl) c_ring_Ring_Drop_41
theorem k_ring_Ring_Low : FnOK Tryz.prog n_ring_Ring_Low d_ring_Ring_Low := fnOK mixed Tryz.func42 (by kernel_rfl) c_ring_Ring_Low
theorem k_log_Log_Config : FnOK Tryz.prog n_log_Log_Config d_log_Log_Config := fnOK mixed Tryz.func43 (by kernel_rfl) c_log_Log_Config
theorem k_client_Client_room : FnOK Tryz.prog n_client_Client_room d_client_Client_room := fnOK mixed Tryz.func44 (by kernel_rfl) c_client_Client_room
theorem k_query_Parse : FnOK Tryz.prog n_query_Parse d_query_Parse := catchMOK (s := ⟨62, [], [(.t 2), (.t 3), (.t 4)], 9999⟩) mixed Tryz.func45 (by kernel_rfl) Tryz.func62 (by kernel_rfl) (by kernel_rfl) c_query_Parse rfl rfl
theorem k_Printable : FnOK Tryz.prog n_Printable d_Printable := fnOK mixed Tryz.func47 (by kernel_rfl) c_Printable
theorem k_Text : FnOK Tryz.prog n_Text d_Text := fnOK mixed Tryz.func48 (by kernel_rfl) c_Text
theorem k_digits : FnOK Tryz.prog n_digits d_digits := fnOK mixed Tryz.func49 (by kernel_rfl) c_digits
theorem k_Next : FnOK Tryz.prog n_Next d_Next := fnOK mixed Tryz.func50 (by kernel_rfl) c_Next
theorem k_Codes : FnOK Tryz.prog n_Codes d_Codes := fnOK mixed Tryz.func51 (by kernel_rfl) c_Codes
theorem k_ring_Ring_at : FnOK Tryz.prog n_ring_Ring_at d_ring_Ring_at := fnOK mixed Tryz.func52 (by kernel_rfl) c_ring_Ring_at
theorem k_ring_Ring_Get : FnOK Tryz.prog n_ring_Ring_Get d_ring_Ring_Get := fnOK mixed Tryz.func53 (by kernel_rfl) c_ring_Ring_Get
theorem k_ring_Ring_at_54 : FnOK Tryz.prog n_ring_Ring_at_54 d_ring_Ring_at_54 := fnOK mixed Tryz.func54 (by kernel_rfl) c_ring_Ring_at_54
theorem k_log_Log_Collect_1 : FnOK Tryz.prog n_log_Log_Collect_1 d_log_Log_Collect_1 := fnOK mixed Tryz.func55 (by kernel_rfl) c_log_Log_Collect_1
theorem k_slices_ContainsFunc : FnOK Tryz.prog n_slices_ContainsFunc d_slices_ContainsFunc := fnOK mixed Tryz.func56 (by kernel_rfl) c_slices_ContainsFunc
theorem k_ring_Ring_Get_57 : FnOK Tryz.prog n_ring_Ring_Get_57 d_ring_Ring_Get_57 := fnOK mixed Tryz.func57 (by kernel_rfl) c_ring_Ring_Get_57
theorem k_ring_Ring_Low_58 : FnOK Tryz.prog n_ring_Ring_Low_58 d_ring_Ring_Low_58 := fnOK mixed Tryz.func58 (by kernel_rfl) c_ring_Ring_Low_58
theorem k_client_Client_slot : FnOK Tryz.prog n_client_Client_slot d_client_Client_slot := fnOK mixed Tryz.func59 (by kernel_rfl) c_client_Client_slot
theorem k_client_Client_take : FnOK Tryz.prog n_client_Client_take d_client_Client_take := fnOK mixed Tryz.func60 (by kernel_rfl) c_client_Client_take
theorem k_lex_Lex : FnOK Tryz.prog n_lex_Lex d_lex_Lex := fnOK mixed Tryz.func61 (by kernel_rfl) c_lex_Lex
theorem k_query_parser_query : FnOK Tryz.prog n_query_parser_query d_query_parser_query := mayOK mixed Tryz.func63 (by kernel_rfl) c_query_parser_query (by kernel_rfl)
theorem k_rName : FnOK Tryz.prog n_rName d_rName := fnOK mixed Tryz.func68 (by kernel_rfl) c_rName
theorem k_rSound : FnOK Tryz.prog n_rSound d_rSound := fnOK mixed Tryz.func69 (by kernel_rfl) c_rSound
theorem k_rtakes : FnOK Tryz.prog n_rtakes d_rtakes := fnOK mixed Tryz.func70 (by kernel_rfl) c_rtakes
theorem k_held : FnOK Tryz.prog n_held d_held := fnOK mixed Tryz.func71 (by kernel_rfl) c_held
theorem k_slices_IndexFunc : FnOK Tryz.prog n_slices_IndexFunc d_slices_IndexFunc := fnOK mixed Tryz.func72 (by kernel_rfl) c_slices_IndexFunc
theorem k_store_Store_Take : FnOK Tryz.prog n_store_Store_Take d_store_Store_Take := fnOK mixed Tryz.func73 (by kernel_rfl) c_store_Store_Take
theorem k_client_Client_fill : FnOK Tryz.prog n_client_Client_fill d_client_Client_fill := fnOK mixed Tryz.func74 (by kernel_rfl) c_client_Client_fill
theorem k_client_Client_drop : FnOK Tryz.prog n_client_Client_drop d_client_Client_drop := fnOK mixed Tryz.func75 (by kernel_rfl) c_client_Client_drop
theorem k_lex_skip : FnOK Tryz.prog n_lex_skip d_lex_skip := fnOK mixed Tryz.func76 (by kernel_rfl) c_lex_skip
theorem k_lex_Each : FnOK Tryz.prog n_lex_Each d_lex_Each := fnOK mixed Tryz.func77 (by kernel_rfl) c_lex_Each
theorem k_query_parser_must : FnOK Tryz.prog n_query_parser_must d_query_parser_must := mayOK mixed Tryz.func78 (by kernel_rfl) c_query_parser_must (by kernel_rfl)
theorem k_query_parser_may : FnOK Tryz.prog n_query_parser_may d_query_parser_may := fnOK mixed Tryz.func79 (by kernel_rfl) c_query_parser_may
theorem k_query_parser_elem : FnOK Tryz.prog n_query_parser_elem d_query_parser_elem := mayOK mixed Tryz.func80 (by kernel_rfl) c_query_parser_elem (by kernel_rfl)
theorem k_query_parser_cond : FnOK Tryz.prog n_query_parser_cond d_query_parser_cond := fnOK mixed Tryz.func81 (by kernel_rfl) c_query_parser_cond
theorem k_query_parser_kind : FnOK Tryz.prog n_query_parser_kind d_query_parser_kind := mayOK mixed Tryz.func82 (by kernel_rfl) c_query_parser_kind (by kernel_rfl)
theorem k_rLex : FnOK Tryz.prog n_rLex d_rLex := fnOK mixed Tryz.func98 (by kernel_rfl) c_rLex
theorem k_rkeyword : FnOK Tryz.prog n_rkeyword d_rkeyword := fnOK mixed Tryz.func99 (by kernel_rfl) c_rkeyword
theorem k_client_Client_wait : FnOK Tryz.prog n_client_Client_wait d_client_Client_wait := fnOK mixed Tryz.func100 (by kernel_rfl) c_client_Client_wait
theorem k_store_Store_Add : FnOK Tryz.prog n_store_Store_Add d_store_Store_Add := fnOK mixed Tryz.func101 (by kernel_rfl) c_store_Store_Add
theorem k_client_Client_free : FnOK Tryz.prog n_client_Client_free d_client_Client_free := fnOK mixed Tryz.func102 (by kernel_rfl) c_client_Client_free
theorem k_strings_IndexByte : FnOK Tryz.prog n_strings_IndexByte d_strings_IndexByte := fnOK mixed Tryz.func103 (by kernel_rfl) c_strings_IndexByte
theorem k_lex_Each_1 : FnOK Tryz.prog n_lex_Each_1 d_lex_Each_1 := fnOK mixed Tryz.func104 (by kernel_rfl) c_lex_Each_1
theorem k_lex_next : FnOK Tryz.prog n_lex_next d_lex_next := fnOK mixed Tryz.func105 (by kernel_rfl) c_lex_next
theorem k_query_parser_at : FnOK Tryz.prog n_query_parser_at d_query_parser_at := fnOK mixed Tryz.func106 (by kernel_rfl) c_query_parser_at
theorem k_query_parser_is : FnOK Tryz.prog n_query_parser_is d_query_parser_is := fnOK mixed Tryz.func107 (by kernel_rfl) c_query_parser_is
theorem k_query_parser_pick : FnOK Tryz.prog n_query_parser_pick d_query_parser_pick := fnOK mixed Tryz.func109 (by kernel_rfl) c_query_parser_pick
theorem k_query_row_now : FnOK Tryz.prog n_query_row_now d_query_row_now := fnOK mixed Tryz.func110 (by kernel_rfl) c_query_row_now
theorem k_rEach : FnOK Tryz.prog n_rEach d_rEach := fnOK mixed Tryz.func125 (by kernel_rfl) c_rEach
theorem k_log_Log_Answer : FnOK Tryz.prog n_log_Log_Answer d_log_Log_Answer := fnOK mixed Tryz.func126 (by kernel_rfl) c_log_Log_Answer
theorem k_store_Store_with : FnOK Tryz.prog n_store_Store_with d_store_Store_with := fnOK mixed Tryz.func127 (by kernel_rfl) c_store_Store_with
theorem k_store_Store_Add_1 : FnOK Tryz.prog n_store_Store_Add_1 d_store_Store_Add_1 := fnOK mixed Tryz.func128 (by kernel_rfl) c_store_Store_Add_1
theorem k_store_Store_Free : FnOK Tryz.prog n_store_Store_Free d_store_Store_Free := fnOK mixed Tryz.func129 (by kernel_rfl) c_store_Store_Free
theorem k_internal_stringslite_IndexByte : FnOK Tryz.prog n_internal_stringslite_IndexByte d_internal_stringslite_IndexByte := fnOK mixed Tryz.func130 (by kernel_rfl) c_internal_stringslite_IndexByte
theorem k_lex_next_1 : FnOK Tryz.prog n_lex_next_1 d_lex_next_1 := fnOK mixed Tryz.func131 (by kernel_rfl) c_lex_next_1
theorem k_lex_small : FnOK Tryz.prog n_lex_small d_lex_small := fnOK mixed Tryz.func132 (by kernel_rfl) c_lex_small
theorem k_lex_digit : FnOK Tryz.prog n_lex_digit d_lex_digit := fnOK mixed Tryz.func133 (by kernel_rfl) c_lex_digit
theorem k_lex_run : FnOK Tryz.prog n_lex_run d_lex_run := fnOK mixed Tryz.func134 (by kernel_rfl) c_lex_run
theorem k_lex_number : FnOK Tryz.prog n_lex_number d_lex_number := fnOK mixed Tryz.func135 (by kernel_rfl) c_lex_number
theorem k_lex_ends : FnOK Tryz.prog n_lex_ends d_lex_ends := fnOK mixed Tryz.func136 (by kernel_rfl) c_lex_ends
theorem k_lex_letter : FnOK Tryz.prog n_lex_letter d_lex_letter := fnOK mixed Tryz.func137 (by kernel_rfl) c_lex_letter
theorem k_lex_sign : FnOK Tryz.prog n_lex_sign d_lex_sign := fnOK mixed Tryz.func138 (by kernel_rfl) c_lex_sign
theorem k_slices_IndexFunc_141 : FnOK Tryz.prog n_slices_IndexFunc_141 d_slices_IndexFunc_141 := fnOK mixed Tryz.func141 (by kernel_rfl) c_slices_IndexFunc_141
theorem k_rblank : FnOK Tryz.prog n_rblank d_rblank := fnOK mixed Tryz.func155 (by kernel_rfl) c_rblank
theorem k_rNext : FnOK Tryz.prog n_rNext d_rNext := fnOK mixed Tryz.func156 (by kernel_rfl) c_rNext
theorem k_store_Store_Free_1 : FnOK Tryz.prog n_store_Store_Free_1 d_store_Store_Free_1 := fnOK mixed Tryz.func157 (by kernel_rfl) c_store_Store_Free_1
theorem k_rsmall : FnOK Tryz.prog n_rsmall d_rsmall := fnOK mixed Tryz.func164 (by kernel_rfl) c_rsmall
theorem k_rgoes : FnOK Tryz.prog n_rgoes d_rgoes := fnOK mixed Tryz.func165 (by kernel_rfl) c_rgoes
theorem k_rdigit : FnOK Tryz.prog n_rdigit d_rdigit := fnOK mixed Tryz.func166 (by kernel_rfl) c_rdigit
theorem k_rnumber : FnOK Tryz.prog n_rnumber d_rnumber := fnOK mixed Tryz.func167 (by kernel_rfl) c_rnumber
theorem k_rletter : FnOK Tryz.prog n_rletter d_rletter := fnOK mixed Tryz.func168 (by kernel_rfl) c_rletter
theorem k_rsign : FnOK Tryz.prog n_rsign d_rsign := fnOK mixed Tryz.func169 (by kernel_rfl) c_rsign
theorem k_rcapital : FnOK Tryz.prog n_rcapital d_rcapital := fnOK mixed Tryz.func176 (by kernel_rfl) c_rcapital
theorem k_Parse1_e : FnOK Tryz.prog n_Parse1_e d_Parse1_e := endOK mixed Tryz.func62 c_Parse1_e (by kernel_rfl)
theorem k_Parse1_p : FnOK Tryz.prog n_Parse1_p d_Parse1_p := panOK mixed Tryz.func62 c_Parse1_p (by kernel_rfl)
theorem progOK : @ProgOK _ (siteRel Tryz.prog) Tryz.prog prog :=
  progOK_cons k_ClientNil (progOK_cons k_sibyllaw20_awake (progOK_cons k_client_New (progOK_cons k_call (progOK_cons k_client_Client_Step (progOK_cons k_client_Client_Done (progOK_cons k_client_Client_Answer (progOK_cons k_client_Client_Stamp (progOK_cons k_log_New (progOK_cons k_sibyllaw20_rest (progOK_cons k_log_Log_Tail (progOK_cons k_log_Log_Store (progOK_cons k_store_Store_Used (progOK_cons k_log_Log_Take (progOK_cons k_log_Log_Fill (progOK_cons k_log_Log_Post (progOK_cons k_log_Log_Reply (progOK_cons k_log_Log_Low (progOK_cons k_client_Client_look (progOK_cons k_client_Read (progOK_cons k_client_Client_end (progOK_cons k_rPrint (progOK_cons k_Made (progOK_cons k_Events (progOK_cons k_log_Right (progOK_cons k_store_New (progOK_cons k_epoch_New (progOK_cons k_ring_New (progOK_cons k_ring_New_34 (progOK_cons k_ring_Ring_Put (progOK_cons k_log_Log_Cursor (progOK_cons k_log_Log_Look (progOK_cons k_ring_Ring_Put_38 (progOK_cons k_log_Log_Collect (progOK_cons k_ring_Ring_Drop (progOK_cons k_ring_Ring_Drop_41 (progOK_cons k_ring_Ring_Low (progOK_cons k_log_Log_Config (progOK_cons k_client_Client_room (progOK_cons k_query_Parse (progOK_cons k_Printable (progOK_cons k_Text (progOK_cons k_digits (progOK_cons k_Next (progOK_cons k_Codes (progOK_cons k_ring_Ring_at (progOK_cons k_ring_Ring_Get (progOK_cons k_ring_Ring_at_54 (progOK_cons k_log_Log_Collect_1 (progOK_cons k_slices_ContainsFunc (progOK_cons k_ring_Ring_Get_57 (progOK_cons k_ring_Ring_Low_58 (progOK_cons k_client_Client_slot (progOK_cons k_client_Client_take (progOK_cons k_lex_Lex (progOK_cons k_query_parser_query (progOK_cons k_rName (progOK_cons k_rSound (progOK_cons k_rtakes (progOK_cons k_held (progOK_cons k_slices_IndexFunc (progOK_cons k_store_Store_Take (progOK_cons k_client_Client_fill (progOK_cons k_client_Client_drop (progOK_cons k_lex_skip (progOK_cons k_lex_Each (progOK_cons k_query_parser_must (progOK_cons k_query_parser_may (progOK_cons k_query_parser_elem (progOK_cons k_query_parser_cond (progOK_cons k_query_parser_kind (progOK_cons k_rLex (progOK_cons k_rkeyword (progOK_cons k_client_Client_wait (progOK_cons k_store_Store_Add (progOK_cons k_client_Client_free (progOK_cons k_strings_IndexByte (progOK_cons k_lex_Each_1 (progOK_cons k_lex_next (progOK_cons k_query_parser_at (progOK_cons k_query_parser_is (progOK_cons k_query_parser_pick (progOK_cons k_query_row_now (progOK_cons k_rEach (progOK_cons k_log_Log_Answer (progOK_cons k_store_Store_with (progOK_cons k_store_Store_Add_1 (progOK_cons k_store_Store_Free (progOK_cons k_internal_stringslite_IndexByte (progOK_cons k_lex_next_1 (progOK_cons k_lex_small (progOK_cons k_lex_digit (progOK_cons k_lex_run (progOK_cons k_lex_number (progOK_cons k_lex_ends (progOK_cons k_lex_letter (progOK_cons k_lex_sign (progOK_cons k_slices_IndexFunc_141 (progOK_cons k_rblank (progOK_cons k_rNext (progOK_cons k_store_Store_Free_1 (progOK_cons k_rsmall (progOK_cons k_rgoes (progOK_cons k_rdigit (progOK_cons k_rnumber (progOK_cons k_rletter (progOK_cons k_rsign (progOK_cons k_rcapital (progOK_cons k_Parse1_e (progOK_cons k_Parse1_p (progOK_nil _))))))))))))))))))))))))))))))))))))))))))))))))))))))))))))))))))))))))))))))))))))))))))))))))))))))))))))))
theorem callOK : @CallOK _ (siteRel Tryz.prog) Tryz.prog C0 := calls_ok mixed progOK rfl
end Go.Proofs.YtfdghdmdjfgjiaaGreatDoor.bind
