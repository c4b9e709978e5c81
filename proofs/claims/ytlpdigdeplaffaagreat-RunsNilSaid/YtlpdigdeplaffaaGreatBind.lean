/- Each function of D's list is the program's function of that number: D's calls are the model's. No condition. -/
import Derived.Test.YtlpdigdeplaffaaGreatRows
import Derived.Test.YtlpdigdeplaffaaGreatP
import Derived.KernelRfl
namespace Go.Proofs.YtlpdigdeplaffaaGreat.bind
open Go Dk Dk.U
theorem c_sibyllaw14_RunsNil : compFn Tryz.prog (drawOf Tryz.prog Tryz.f3.ntmps (plans [])) [] false true Tryz.f3 = some { d_sibyllaw14_RunsNil with sha := false } := by kernel_rfl
theorem c_runs_Runs_Feed : compFn Tryz.prog (drawOf Tryz.prog Tryz.f4.ntmps (plans [(11, [0, 1, 2, 3, 4, 5, 6, 7, 8, 9, 10, 11, 12]), (32, [0, 1, 2, 3, 4, 5, 6, 7, 8, 9, 10, 11]), (33, [0, 1, 2, 3, 4, 5, 6, 7, 8, 9, 10, 11, 12]), (36, [0, 1, 2, 3, 4, 5, 6, 7, 8, 9, 10, 11, 12, 13, 14, 15, 16, 17, 18]), (38, [0, 1, 2, 3, 4, 5, 6, 7]), (39, [0, 1, 2, 3, 4, 5, 6, 7, 8, 9, 10, 11])])) [[1, 5, 7, 10, 12, 13, 14, 15, 100, 101, 102], [1, 5, 7, 10, 12, 14, 18, 19, 132, 133, 134], [5, 10, 18, 212, 213, 214], [10, 18, 237, 238, 239]] false false Tryz.f4 = some { d_runs_Runs_Feed with sha := false } := by kernel_rfl
theorem c_sibyllaw14_RunsNil_1 : compFn Tryz.prog (drawOf Tryz.prog Tryz.f5.ntmps (plans [])) [] false false Tryz.f5 = some { d_sibyllaw14_RunsNil_1 with sha := false } := by kernel_rfl
theorem c_sibyllaw14_awake : compFn Tryz.prog (drawOf Tryz.prog Tryz.f6.ntmps (plans [])) [] false true Tryz.f6 = some { d_sibyllaw14_awake with sha := false } := by kernel_rfl
theorem c_runs_Runs_End : compFn Tryz.prog (drawOf Tryz.prog Tryz.f7.ntmps (plans [(10, [0, 1, 2, 3, 4, 5, 6, 7, 8, 9, 10, 11])])) [[0, 3, 5, 18], [0, 3, 5, 18, 24, 25, 26]] false false Tryz.f7 = some { d_runs_Runs_End with sha := false } := by kernel_rfl
theorem c_runs_Runs_Count : compSum Tryz.prog (drawOf Tryz.prog Tryz.f8.ntmps fun _ => none) Tryz.f8 = some d_runs_Runs_Count := by kernel_rfl
theorem c_runs_Runs_Misses : compFn Tryz.prog (drawOf Tryz.prog Tryz.f9.ntmps (plans [])) [] false false Tryz.f9 = some { d_runs_Runs_Misses with sha := false } := by kernel_rfl
theorem c_runs_Runs_Lost : compFn Tryz.prog (drawOf Tryz.prog Tryz.f10.ntmps (plans [])) [] false false Tryz.f10 = some { d_runs_Runs_Lost with sha := false } := by kernel_rfl
theorem c_runs_New : compFn Tryz.prog (drawOf Tryz.prog Tryz.f11.ntmps (plans [(3, [0, 1, 3, 2, 4, 5, 6])])) [] false false Tryz.f11 = some { d_runs_New with sha := false } := by kernel_rfl
theorem c_slices_Clone : compClone Tryz.prog (drawOf Tryz.prog Tryz.f12.ntmps fun _ => none) Tryz.f12 = some d_slices_Clone := by kernel_rfl
theorem c_runs_Runs_grow : compFn Tryz.prog (drawOf Tryz.prog Tryz.f13.ntmps (plans [(8, [0, 1, 2, 3, 4, 5, 6, 7, 8, 9, 10, 11, 12, 13, 14]), (16, [0, 1, 2, 3, 4, 5, 6, 8, 9, 10, 12, 7, 11, 13]), (17, [0, 1, 2, 3, 4, 5, 8, 6, 7]), (22, [0, 1, 2, 3, 4, 5, 6, 7, 8, 9, 10, 11, 12, 13, 14, 15, 16, 17, 18]), (25, [0, 1, 2, 3, 4, 5, 10, 6, 7, 8, 9, 11, 12])])) [[4, 5, 6, 9, 10, 11, 12, 39, 40, 41], [4, 5, 6, 9, 10, 11, 12, 14, 15, 39, 40, 41, 76, 77, 78], [4, 5, 6, 9, 10, 11, 12, 14, 39, 40, 41, 109, 110, 111]] false false Tryz.f13 = some { d_runs_Runs_grow with sha := false } := by kernel_rfl
theorem c_runs_Runs_Feed_1 : compFn Tryz.prog (drawOf Tryz.prog Tryz.f14.ntmps (plans [(1, [0, 1, 2, 3, 4, 5, 6, 7, 8, 9, 10, 11, 12, 13, 14, 15, 16, 17, 18, 19, 20, 21, 22, 23])])) [] false false Tryz.f14 = some { d_runs_Runs_Feed_1 with sha := false } := by kernel_rfl
theorem c_step_Done : compFn Tryz.prog (drawOf Tryz.prog Tryz.f15.ntmps (plans [])) [] false false Tryz.f15 = some { d_step_Done with sha := false } := by kernel_rfl
theorem c_runs_mapped : compFn Tryz.prog (drawOf Tryz.prog Tryz.f16.ntmps (plans [])) [[1, 5, 11, 12, 13]] false false Tryz.f16 = some { d_runs_mapped with sha := false } := by kernel_rfl
theorem c_runs_Runs_Feed_2 : compFn Tryz.prog (drawOf Tryz.prog Tryz.f17.ntmps (plans [])) [] false false Tryz.f17 = some { d_runs_Runs_Feed_2 with sha := false } := by kernel_rfl
theorem c_runs_Runs_found : compFn Tryz.prog (drawOf Tryz.prog Tryz.f18.ntmps (plans [])) [] false false Tryz.f18 = some { d_runs_Runs_found with sha := false } := by kernel_rfl
theorem c_chain_Chain_Push : compFn Tryz.prog (drawOf Tryz.prog Tryz.f19.ntmps (plans [(10, [0, 1, 2, 3, 4, 5, 6, 7, 8, 9, 10, 11])])) [] false false Tryz.f19 = some { d_chain_Chain_Push with sha := false } := by kernel_rfl
theorem c_chain_Chain_Keep : compFn Tryz.prog (drawOf Tryz.prog Tryz.f20.ntmps (plans [])) [] false false Tryz.f20 = some { d_chain_Chain_Keep with sha := false } := by kernel_rfl
theorem c_chain_Chain_Drop : compFn Tryz.prog (drawOf Tryz.prog Tryz.f21.ntmps (plans [])) [[0, 1, 6, 7]] false false Tryz.f21 = some { d_chain_Chain_Drop with sha := false } := by kernel_rfl
theorem c_slices_SortStableFunc : compFn Tryz.prog (drawOf Tryz.prog Tryz.f22.ntmps (plans [])) [] false false Tryz.f22 = some { d_slices_SortStableFunc with sha := false } := by kernel_rfl
theorem c_runs_Runs_Feed_3 : compFn Tryz.prog (drawOf Tryz.prog Tryz.f23.ntmps (plans [])) [] false false Tryz.f23 = some { d_runs_Runs_Feed_3 with sha := false } := by kernel_rfl
theorem c_tuple_Compare : compFn Tryz.prog (drawOf Tryz.prog Tryz.f24.ntmps (plans [])) [] false false Tryz.f24 = some { d_tuple_Compare with sha := false } := by kernel_rfl
theorem c_sibyllaw14_feed : compFn Tryz.prog (drawOf Tryz.prog Tryz.f25.ntmps (plans [(2, [0, 1, 3, 4, 5, 6, 7, 8, 9, 2, 10, 11])])) [] false false Tryz.f25 = some { d_sibyllaw14_feed with sha := false } := by kernel_rfl
theorem c_slices_SortFunc : compFn Tryz.prog (drawOf Tryz.prog Tryz.f26.ntmps (plans [])) [] false false Tryz.f26 = some { d_slices_SortFunc with sha := false } := by kernel_rfl
theorem c_runs_Runs_End_1 : compFn Tryz.prog (drawOf Tryz.prog Tryz.f27.ntmps (plans [(1, [0, 1, 2, 3, 5, 6, 7, 8, 4, 9, 10, 11, 12])])) [] false false Tryz.f27 = some { d_runs_Runs_End_1 with sha := false } := by kernel_rfl
theorem c_cmp_Or : compFn Tryz.prog (drawOf Tryz.prog Tryz.f28.ntmps (plans [])) [[3, 6, 7, 8]] false false Tryz.f28 = some { d_cmp_Or with sha := false } := by kernel_rfl
theorem c_cmp_Compare : compFn Tryz.prog (drawOf Tryz.prog Tryz.f29.ntmps (plans [])) [] false false Tryz.f29 = some { d_cmp_Compare with sha := false } := by kernel_rfl
theorem c_table_Right : compFn Tryz.prog (drawOf Tryz.prog Tryz.f30.ntmps (plans [])) [[3, 38, 39, 40]] false true Tryz.f30 = some { d_table_Right with sha := false } := by kernel_rfl
theorem c_chain_New : compFn Tryz.prog (drawOf Tryz.prog Tryz.f31.ntmps (plans [])) [] false false Tryz.f31 = some { d_chain_New with sha := false } := by kernel_rfl
theorem c_runs_Runs_grow_1 : compFn Tryz.prog (drawOf Tryz.prog Tryz.f32.ntmps (plans [(1, [0, 1, 2, 3, 4, 5, 6, 7, 8, 9, 10, 11, 12, 13, 14, 15, 16, 17, 18, 19, 24, 20, 21, 22, 23, 25, 26])])) [] false false Tryz.f32 = some { d_runs_Runs_grow_1 with sha := false } := by kernel_rfl
theorem c_tuple_Flat : compFn Tryz.prog (drawOf Tryz.prog Tryz.f33.ntmps (plans [])) [] false false Tryz.f33 = some { d_tuple_Flat with sha := false } := by kernel_rfl
theorem c_runs_shifted : compFn Tryz.prog (drawOf Tryz.prog Tryz.f34.ntmps (plans [])) [] false false Tryz.f34 = some { d_runs_shifted with sha := false } := by kernel_rfl
theorem c_step_Step : compFn Tryz.prog (drawOf Tryz.prog Tryz.f35.ntmps (plans [(2, [0, 1, 2, 3, 4, 5, 6, 7, 8, 9, 10, 11, 12, 13, 14, 15, 16, 17, 18, 19, 20, 21]), (4, [0, 1, 2, 3, 4, 5, 6, 7, 8, 9, 10, 11, 12, 13, 14, 15])])) [] false false Tryz.f35 = some { d_step_Step with sha := false } := by kernel_rfl
theorem c_step_Start : compFn Tryz.prog (drawOf Tryz.prog Tryz.f36.ntmps (plans [])) [] false false Tryz.f36 = some { d_step_Start with sha := false } := by kernel_rfl
theorem c_runs_Runs_found_1 : compFn Tryz.prog (drawOf Tryz.prog Tryz.f37.ntmps (plans [(1, [0, 1, 2, 3, 4, 5, 6, 7, 8, 9, 10, 11, 12, 13, 14, 15, 16, 17, 18])])) [] false false Tryz.f37 = some { d_runs_Runs_found_1 with sha := false } := by kernel_rfl
theorem c_runs_mapped_38 : compFn Tryz.prog (drawOf Tryz.prog Tryz.f38.ntmps (plans [])) [[1, 5, 11, 12, 13]] false false Tryz.f38 = some { d_runs_mapped_38 with sha := false } := by kernel_rfl
theorem c_runs_Runs_found_2 : compFn Tryz.prog (drawOf Tryz.prog Tryz.f39.ntmps (plans [])) [] false false Tryz.f39 = some { d_runs_Runs_found_2 with sha := false } := by kernel_rfl
theorem c_runs_mapped_40 : compFn Tryz.prog (drawOf Tryz.prog Tryz.f40.ntmps (plans [])) [[1, 5, 11, 12, 13]] false false Tryz.f40 = some { d_runs_mapped_40 with sha := false } := by kernel_rfl
theorem c_runs_Runs_found_2_1 : compFn Tryz.prog (drawOf Tryz.prog Tryz.f41.ntmps (plans [])) [] false false Tryz.f41 = some { d_runs_Runs_found_2_1 with sha := false } := by kernel_rfl
theorem c_runs_mapped_42 : compFn Tryz.prog (drawOf Tryz.prog Tryz.f42.ntmps (plans [])) [[1, 5, 11, 12, 13]] false false Tryz.f42 = some { d_runs_mapped_42 with sha := false } := by kernel_rfl
theorem c_runs_Runs_found_3 : compFn Tryz.prog (drawOf Tryz.prog Tryz.f43.ntmps (plans [])) [] false false Tryz.f43 = some { d_runs_Runs_found_3 with sha := false } := by kernel_rfl
theorem c_chain_Chain_at : compFn Tryz.prog (drawOf Tryz.prog Tryz.f44.ntmps (plans [])) [] false false Tryz.f44 = some { d_chain_Chain_at with sha := false } := by kernel_rfl
theorem c_slices_stableCmpFunc : compFn Tryz.prog (drawOf Tryz.prog Tryz.f45.ntmps (plans [])) [[0, 1, 2, 6, 7, 8], [0, 1, 2, 6], [0, 1, 2, 6, 7, 8]] false false Tryz.f45 = some { d_slices_stableCmpFunc with sha := false } := by kernel_rfl
theorem c_slices_CompareFunc : compFn Tryz.prog (drawOf Tryz.prog Tryz.f46.ntmps (plans [])) [[0, 1, 2, 11, 12, 13]] false false Tryz.f46 = some { d_slices_CompareFunc with sha := false } := by kernel_rfl
theorem c_tuple_Compare_1 : compFn Tryz.prog (drawOf Tryz.prog Tryz.f47.ntmps (plans [])) [] false false Tryz.f47 = some { d_tuple_Compare_1 with sha := false } := by kernel_rfl
theorem c_slices_Compare : compFn Tryz.prog (drawOf Tryz.prog Tryz.f48.ntmps (plans [])) [[0, 1, 9, 10, 11]] false false Tryz.f48 = some { d_slices_Compare with sha := false } := by kernel_rfl
theorem c_sibyllaw14_feed_1 : compFn Tryz.prog (drawOf Tryz.prog Tryz.f49.ntmps (plans [])) [] false false Tryz.f49 = some { d_sibyllaw14_feed_1 with sha := false } := by kernel_rfl
theorem c_sibyllaw14_stamp : compFn Tryz.prog (drawOf Tryz.prog Tryz.f50.ntmps (plans [])) [] false false Tryz.f50 = some { d_sibyllaw14_stamp with sha := false } := by kernel_rfl
theorem c_slices_pdqsortCmpFunc : compFn Tryz.prog (drawOf Tryz.prog Tryz.f51.ntmps (plans [(17, [0, 1, 2, 3, 4, 5, 6, 7, 8, 9, 10, 11, 12, 13, 14, 15, 16])])) [[0, 1, 2, 3, 4, 10, 11]] false false Tryz.f51 = some { d_slices_pdqsortCmpFunc with sha := false } := by kernel_rfl
theorem c_math_bits_Len : compFn Tryz.prog (drawOf Tryz.prog Tryz.f52.ntmps (plans [])) [] false false Tryz.f52 = some { d_math_bits_Len with sha := false } := by kernel_rfl
theorem c_cmp_isNaN : compFn Tryz.prog (drawOf Tryz.prog Tryz.f53.ntmps (plans [])) [] false false Tryz.f53 = some { d_cmp_isNaN with sha := false } := by kernel_rfl
theorem c_table_Right_1 : compFn Tryz.prog (drawOf Tryz.prog Tryz.f54.ntmps (plans [])) [] false false Tryz.f54 = some { d_table_Right_1 with sha := false } := by kernel_rfl
theorem c_table_typed : compFn Tryz.prog (drawOf Tryz.prog Tryz.f55.ntmps (plans [])) [] false false Tryz.f55 = some { d_table_typed with sha := false } := by kernel_rfl
theorem c_table_may : compFn Tryz.prog (drawOf Tryz.prog Tryz.f56.ntmps (plans [])) [[4, 5, 10, 11, 12]] false false Tryz.f56 = some { d_table_may with sha := false } := by kernel_rfl
theorem c_slices_ContainsFunc : compFn Tryz.prog (drawOf Tryz.prog Tryz.f57.ntmps (plans [])) [] false false Tryz.f57 = some { d_slices_ContainsFunc with sha := false } := by kernel_rfl
theorem c_slices_Concat : compFn Tryz.prog (drawOf Tryz.prog Tryz.f58.ntmps (plans [])) [[0, 3, 9, 10, 11], [6, 25, 26, 27]] false false Tryz.f58 = some { d_slices_Concat with sha := false } := by kernel_rfl
theorem c_runs_shifted_1 : compFn Tryz.prog (drawOf Tryz.prog Tryz.f59.ntmps (plans [])) [] false false Tryz.f59 = some { d_runs_shifted_1 with sha := false } := by kernel_rfl
theorem c_runs_shifted_1_1 : compFn Tryz.prog (drawOf Tryz.prog Tryz.f60.ntmps (plans [])) [] false false Tryz.f60 = some { d_runs_shifted_1_1 with sha := false } := by kernel_rfl
theorem c_step_Fits : compFn Tryz.prog (drawOf Tryz.prog Tryz.f61.ntmps (plans [(17, [0, 1, 2, 3, 4, 5, 6, 7, 8, 9, 10, 11])])) [[2, 3, 4, 7, 52, 53, 54], [2, 3, 4, 7, 52, 53, 54, 76, 77, 78]] false false Tryz.f61 = some { d_step_Fits with sha := false } := by kernel_rfl
theorem c_step_Step_1 : compFn Tryz.prog (drawOf Tryz.prog Tryz.f62.ntmps (plans [])) [] false false Tryz.f62 = some { d_step_Step_1 with sha := false } := by kernel_rfl
theorem c_step_copied : compFn Tryz.prog (drawOf Tryz.prog Tryz.f63.ntmps (plans [])) [[3, 9, 10, 11]] false false Tryz.f63 = some { d_step_copied with sha := false } := by kernel_rfl
theorem c_step_barred : compFn Tryz.prog (drawOf Tryz.prog Tryz.f64.ntmps (plans [])) [] false false Tryz.f64 = some { d_step_barred with sha := false } := by kernel_rfl
theorem c_step_takes : compFn Tryz.prog (drawOf Tryz.prog Tryz.f65.ntmps (plans [(2, [0, 1, 2, 3, 4, 5, 6, 7, 8, 9, 10, 11, 12, 13, 14, 15, 16, 17, 18, 19])])) [] false false Tryz.f65 = some { d_step_takes with sha := false } := by kernel_rfl
theorem c_step_with : compFn Tryz.prog (drawOf Tryz.prog Tryz.f66.ntmps (plans [])) [] false false Tryz.f66 = some { d_step_with with sha := false } := by kernel_rfl
theorem c_slices_insertionSortCmpFunc : compFn Tryz.prog (drawOf Tryz.prog Tryz.f67.ntmps (plans [(4, [0, 1, 2, 3, 4, 5, 6, 7, 8, 9, 10, 11, 12, 13, 14, 15, 16]), (6, [0, 1, 2, 3, 4, 5, 6, 7, 8, 9, 10, 11, 12, 13, 14, 15, 16, 17])])) [[0, 1, 2, 3, 8], [0, 1, 2, 3, 8, 9]] false false Tryz.f67 = some { d_slices_insertionSortCmpFunc with sha := false } := by kernel_rfl
theorem c_slices_symMergeCmpFunc : compFn Tryz.prog (drawOf Tryz.prog Tryz.f68.ntmps (plans [(5, [0, 1, 2, 3, 4, 5, 6, 7, 8, 9, 10]), (11, [0, 1, 2, 3, 4, 5, 6, 7, 8, 9, 10, 11, 12, 13, 14, 15, 16, 17]), (17, [0, 1, 2, 3, 4, 5, 6, 7, 8, 9, 10, 11]), (23, [0, 1, 2, 3, 4, 5, 6, 7, 8, 9, 10, 11, 12, 13, 14, 15, 16, 17]), (35, [0, 1, 2, 3, 4, 5, 6, 7, 8, 9, 10, 11, 12, 13])])) [[0, 1, 4, 10, 11], [0, 10, 13], [0, 2, 4, 14, 15], [0, 14, 17], [0, 1, 2, 3, 4, 18, 19, 20, 21, 22]] false false Tryz.f68 = some { d_slices_symMergeCmpFunc with sha := false } := by kernel_rfl
theorem c_slices_insertionSortCmpFunc_69 : compFn Tryz.prog (drawOf Tryz.prog Tryz.f69.ntmps (plans [(4, [0, 1, 2, 3, 4, 5, 6, 7, 8, 9, 10, 11, 12, 13, 14, 15, 16]), (6, [0, 1, 2, 3, 4, 5, 6, 7, 8, 9, 10, 11, 12, 13, 14, 15, 16, 17])])) [[0, 1, 2, 3, 8], [0, 1, 2, 3, 8, 9]] false false Tryz.f69 = some { d_slices_insertionSortCmpFunc_69 with sha := false } := by kernel_rfl
theorem c_slices_heapSortCmpFunc : compFn Tryz.prog (drawOf Tryz.prog Tryz.f70.ntmps (plans [(10, [0, 1, 2, 3, 4, 5, 6, 7, 8, 9, 10, 11, 12, 13, 14, 15, 16, 17, 18, 19])])) [[0, 3, 8, 9, 10, 11], [0, 3, 8, 9, 12]] false false Tryz.f70 = some { d_slices_heapSortCmpFunc with sha := false } := by kernel_rfl
theorem c_slices_breakPatternsCmpFunc : compFn Tryz.prog (drawOf Tryz.prog Tryz.f71.ntmps (plans [(10, [0, 1, 2, 3, 4, 5, 6, 7, 8, 9, 10, 11, 12, 13, 14, 15, 16, 17, 18, 19])])) [[0, 1, 8, 9, 10, 11]] false false Tryz.f71 = some { d_slices_breakPatternsCmpFunc with sha := false } := by kernel_rfl
theorem c_slices_choosePivotCmpFunc : compFn Tryz.prog (drawOf Tryz.prog Tryz.f72.ntmps (plans [])) [] false false Tryz.f72 = some { d_slices_choosePivotCmpFunc with sha := false } := by kernel_rfl
theorem c_slices_reverseRangeCmpFunc : compFn Tryz.prog (drawOf Tryz.prog Tryz.f73.ntmps (plans [(3, [0, 1, 2, 3, 4, 5, 6, 7, 8, 9, 10, 11, 12, 13, 14, 15])])) [[0, 8, 9]] false false Tryz.f73 = some { d_slices_reverseRangeCmpFunc with sha := false } := by kernel_rfl
theorem c_slices_partialInsertionSortCmpFunc : compFn Tryz.prog (drawOf Tryz.prog Tryz.f74.ntmps (plans [(5, [0, 1, 2, 3, 4, 5, 6, 7, 8, 9, 10, 11, 12, 13, 14, 15, 16, 17]), (11, [0, 1, 2, 3, 4, 5, 6, 7, 8, 9, 10, 11, 12, 13, 14, 15, 16, 17]), (16, [0, 1, 2, 3, 4, 5, 6, 7, 8, 9, 10, 11, 12]), (17, [0, 1, 2, 3, 4, 5, 6, 7, 8, 9, 10, 11, 12, 13, 14, 15, 16, 17]), (22, [0, 1, 2, 3, 4, 5, 6, 7, 8, 9, 10, 11, 12]), (23, [0, 1, 2, 3, 4, 5, 6, 7, 8, 9, 10, 11, 12, 13, 14, 15, 16, 17])])) [[0, 1, 2, 3, 9, 10], [0, 1, 2, 3, 9, 10], [0, 1, 2, 3, 9, 10, 11], [0, 1, 2, 3, 9, 10, 12]] false false Tryz.f74 = some { d_slices_partialInsertionSortCmpFunc with sha := false } := by kernel_rfl
theorem c_slices_partitionEqualCmpFunc : compFn Tryz.prog (drawOf Tryz.prog Tryz.f75.ntmps (plans [(1, [0, 1, 2, 3, 4, 5, 6, 7, 8, 9, 10, 11, 12, 13, 14, 15]), (3, [0, 1, 2, 3, 4, 5, 6, 7, 8, 9, 10, 11, 12, 13, 14, 15, 16]), (5, [0, 1, 2, 3, 4, 5, 6, 7, 8, 9, 10, 11, 12, 13, 14, 15]), (8, [0, 1, 2, 3, 4, 5, 6, 7, 8, 9, 10, 11, 12, 13, 14, 15])])) [[0, 1, 4, 11, 12], [0, 1, 4, 11, 12], [0, 1, 4, 11, 12]] false false Tryz.f75 = some { d_slices_partitionEqualCmpFunc with sha := false } := by kernel_rfl
theorem c_slices_partitionCmpFunc : compFn Tryz.prog (drawOf Tryz.prog Tryz.f76.ntmps (plans [(1, [0, 1, 2, 3, 4, 5, 6, 7, 8, 9, 10, 11, 12, 13, 14, 15]), (3, [0, 1, 2, 3, 4, 5, 6, 7, 8, 9, 10, 11, 12, 13, 14, 15]), (5, [0, 1, 2, 3, 4, 5, 6, 7, 8, 9, 10, 11, 12, 13, 14, 15, 16]), (8, [0, 1, 2, 3, 4, 5, 6, 7, 8, 9, 10, 11, 12, 13, 14, 15]), (10, [0, 1, 2, 3, 4, 5, 6, 7, 8, 9, 10, 11, 12, 13, 14, 15]), (13, [0, 1, 2, 3, 4, 5, 6, 7, 8, 9, 10, 11, 12, 13, 14, 15]), (15, [0, 1, 2, 3, 4, 5, 6, 7, 8, 9, 10, 11, 12, 13, 14, 15, 16]), (18, [0, 1, 2, 3, 4, 5, 6, 7, 8, 9, 10, 11, 12, 13, 14, 15]), (21, [0, 1, 2, 3, 4, 5, 6, 7, 8, 9, 10, 11, 12, 13, 14, 15])])) [[0, 1, 4, 12, 13], [0, 1, 4, 12, 13], [0, 1, 4, 12, 13], [0, 1, 4, 12, 13], [0, 1, 4, 12, 13]] false false Tryz.f76 = some { d_slices_partitionCmpFunc with sha := false } := by kernel_rfl
theorem c_math_bits_Len32 : compFn Tryz.prog (drawOf Tryz.prog Tryz.f77.ntmps (plans [])) [] false false Tryz.f77 = some { d_math_bits_Len32 with sha := false } := by kernel_rfl
theorem c_math_bits_Len64 : compFn Tryz.prog (drawOf Tryz.prog Tryz.f78.ntmps (plans [])) [] false false Tryz.f78 = some { d_math_bits_Len64 with sha := false } := by kernel_rfl
theorem c_table_may_1 : compFn Tryz.prog (drawOf Tryz.prog Tryz.f79.ntmps (plans [])) [] false false Tryz.f79 = some { d_table_may_1 with sha := false } := by kernel_rfl
theorem c_table_named : compFn Tryz.prog (drawOf Tryz.prog Tryz.f80.ntmps (plans [])) [] false false Tryz.f80 = some { d_table_named with sha := false } := by kernel_rfl
theorem c_slices_ContainsFunc_81 : compFn Tryz.prog (drawOf Tryz.prog Tryz.f81.ntmps (plans [])) [] false false Tryz.f81 = some { d_slices_ContainsFunc_81 with sha := false } := by kernel_rfl
theorem c_slices_Concat_82 : compFn Tryz.prog (drawOf Tryz.prog Tryz.f82.ntmps (plans [])) [[0, 3, 9, 10, 11], [6, 25, 26, 27]] false false Tryz.f82 = some { d_slices_Concat_82 with sha := false } := by kernel_rfl
theorem c_slices_IndexFunc : compFn Tryz.prog (drawOf Tryz.prog Tryz.f83.ntmps (plans [])) [[0, 1, 7, 8]] false false Tryz.f83 = some { d_slices_IndexFunc with sha := false } := by kernel_rfl
theorem c_slices_Grow : compFn Tryz.prog (drawOf Tryz.prog Tryz.f84.ntmps (plans [])) [] false false Tryz.f84 = some { d_slices_Grow with sha := false } := by kernel_rfl
theorem c_slices_Clone_85 : compClone Tryz.prog (drawOf Tryz.prog Tryz.f85.ntmps fun _ => none) Tryz.f85 = some d_slices_Clone_85 := by kernel_rfl
theorem c_step_barred_1 : compFn Tryz.prog (drawOf Tryz.prog Tryz.f86.ntmps (plans [(1, [0, 1, 2, 3, 4, 5, 6, 7, 8, 9, 10, 11, 12, 13, 14, 15, 16, 17, 18, 19, 20, 21])])) [] false false Tryz.f86 = some { d_step_barred_1 with sha := false } := by kernel_rfl
theorem c_pred_All : compFn Tryz.prog (drawOf Tryz.prog Tryz.f87.ntmps (plans [])) [[1, 7, 8, 9]] false false Tryz.f87 = some { d_pred_All with sha := false } := by kernel_rfl
theorem c_step_sets : compFn Tryz.prog (drawOf Tryz.prog Tryz.f88.ntmps (plans [(8, [0, 1, 2, 3, 4, 5, 6, 7, 8, 9, 10, 11, 12, 13]), (11, [0, 1, 2, 3, 4, 5, 6, 7, 8, 9, 10, 11, 12, 13, 14, 15])])) [[0, 2, 7, 20, 21, 22], [0, 2, 7, 8, 20, 21, 22, 27, 28, 29]] false false Tryz.f88 = some { d_step_sets with sha := false } := by kernel_rfl
theorem c_slices_rotateCmpFunc : compFn Tryz.prog (drawOf Tryz.prog Tryz.f89.ntmps (plans [])) [[0, 2, 4, 10, 11]] false false Tryz.f89 = some { d_slices_rotateCmpFunc with sha := false } := by kernel_rfl
theorem c_slices_siftDownCmpFunc : compFn Tryz.prog (drawOf Tryz.prog Tryz.f90.ntmps (plans [(3, [0, 1, 2, 3, 4, 5, 6, 7, 8, 9, 10, 11, 12, 13, 14, 15, 16, 17, 18, 19, 20, 21]), (5, [0, 1, 2, 3, 4, 5, 6, 7, 8, 9, 10, 11, 12, 13, 14, 15]), (6, [0, 1, 2, 3, 4, 5, 6, 7, 8, 9, 10, 11, 12, 13, 14, 15, 16, 17, 18, 19, 20, 21, 22, 23])])) [[0, 2, 3, 4, 10]] false false Tryz.f90 = some { d_slices_siftDownCmpFunc with sha := false } := by kernel_rfl
theorem c_slices_nextPowerOfTwo : compFn Tryz.prog (drawOf Tryz.prog Tryz.f91.ntmps (plans [])) [] false false Tryz.f91 = some { d_slices_nextPowerOfTwo with sha := false } := by kernel_rfl
theorem c_slices_xorshift_Next : compFn Tryz.prog (drawOf Tryz.prog Tryz.f92.ntmps (plans [(1, [0, 1, 2, 3, 4, 5, 6, 7, 8, 9]), (2, [0, 1, 2, 3, 4, 5, 6, 7, 8, 9]), (3, [0, 1, 2, 3, 4, 5, 6, 7, 8, 9])])) [] false false Tryz.f92 = some { d_slices_xorshift_Next with sha := false } := by kernel_rfl
theorem c_slices_medianAdjacentCmpFunc : compFn Tryz.prog (drawOf Tryz.prog Tryz.f93.ntmps (plans [])) [] false false Tryz.f93 = some { d_slices_medianAdjacentCmpFunc with sha := false } := by kernel_rfl
theorem c_slices_medianCmpFunc : compFn Tryz.prog (drawOf Tryz.prog Tryz.f94.ntmps (plans [])) [] false false Tryz.f94 = some { d_slices_medianCmpFunc with sha := false } := by kernel_rfl
theorem c_slices_IndexFunc_95 : compFn Tryz.prog (drawOf Tryz.prog Tryz.f95.ntmps (plans [])) [[0, 1, 7, 8]] false false Tryz.f95 = some { d_slices_IndexFunc_95 with sha := false } := by kernel_rfl
theorem c_slices_Grow_96 : compFn Tryz.prog (drawOf Tryz.prog Tryz.f96.ntmps (plans [])) [] false false Tryz.f96 = some { d_slices_Grow_96 with sha := false } := by kernel_rfl
theorem c_pred_Holds : compFn Tryz.prog (drawOf Tryz.prog Tryz.f97.ntmps (plans [])) [] false false Tryz.f97 = some { d_pred_Holds with sha := false } := by kernel_rfl
theorem c_slices_swapRangeCmpFunc : compFn Tryz.prog (drawOf Tryz.prog Tryz.f98.ntmps (plans [(3, [0, 1, 2, 3, 4, 5, 6, 7, 8, 9, 10, 11, 12, 13, 14, 15, 16, 17, 18, 19, 20, 21, 22, 23])])) [[0, 1, 2, 3, 10]] false false Tryz.f98 = some { d_slices_swapRangeCmpFunc with sha := false } := by kernel_rfl
theorem c_slices_order2CmpFunc : compFn Tryz.prog (drawOf Tryz.prog Tryz.f99.ntmps (plans [(1, [0, 1, 2, 3, 4, 5, 6, 7, 8, 9, 10])])) [] false false Tryz.f99 = some { d_slices_order2CmpFunc with sha := false } := by kernel_rfl
theorem c_pred_Eval : compFn Tryz.prog (drawOf Tryz.prog Tryz.f100.ntmps (plans [(24, [0, 1, 2, 3, 4, 5, 6, 7, 8, 9, 10, 11, 12, 13, 14]), (27, [0, 1, 2, 3, 5, 4, 6, 7, 8, 9])])) [[1, 6, 7, 8, 9, 19, 20, 21]] false false Tryz.f100 = some { d_pred_Eval with sha := false } := by kernel_rfl
theorem c_num_Test : compFn Tryz.prog (drawOf Tryz.prog Tryz.f101.ntmps (plans [])) [] false false Tryz.f101 = some { d_num_Test with sha := false } := by kernel_rfl
theorem c_pred_Eval_1 : compFn Tryz.prog (drawOf Tryz.prog Tryz.f102.ntmps (plans [])) [] false false Tryz.f102 = some { d_pred_Eval_1 with sha := false } := by kernel_rfl
theorem c_pred_Eval_2 : compFn Tryz.prog (drawOf Tryz.prog Tryz.f103.ntmps (plans [])) [] false false Tryz.f103 = some { d_pred_Eval_2 with sha := false } := by kernel_rfl
theorem c_pred_last : compFn Tryz.prog (drawOf Tryz.prog Tryz.f104.ntmps (plans [])) [] false false Tryz.f104 = some { d_pred_last with sha := false } := by kernel_rfl
theorem c_num_Do : compFn Tryz.prog (drawOf Tryz.prog Tryz.f105.ntmps (plans [])) [] false false Tryz.f105 = some { d_num_Do with sha := false } := by kernel_rfl
theorem mixed : Tryz.prog.follows .mixedOrders = true := by kernel_rfl
theorem k_sibyllaw14_RunsNil : FnOK Tryz.prog n_sibyllaw14_RunsNil d_sibyllaw14_RunsNil := fnOK mixed Tryz.func3 (by kernel_rfl) c_sibyllaw14_RunsNil
theorem k_runs_Runs_Feed : FnOK Tryz.prog n_runs_Runs_Feed d_runs_Runs_Feed := fnOK mixed Tryz.func4 (by kernel_rfl) c_runs_Runs_Feed
theorem k_sibyllaw14_RunsNil_1 : FnOK Tryz.prog n_sibyllaw14_RunsNil_1 d_sibyllaw14_RunsNil_1 := fnOK mixed Tryz.func5 (by kernel_rfl) c_sibyllaw14_RunsNil_1
theorem k_sibyllaw14_awake : FnOK Tryz.prog n_sibyllaw14_awake d_sibyllaw14_awake := fnOK mixed Tryz.func6 (by kernel_rfl) c_sibyllaw14_awake
theorem k_runs_Runs_End : FnOK Tryz.prog n_runs_Runs_End d_runs_Runs_End := fnOK mixed Tryz.func7 (by kernel_rfl) c_runs_Runs_End
theorem k_runs_Runs_Count : FnOK Tryz.prog n_runs_Runs_Count d_runs_Runs_Count := sumOK mixed Tryz.func8 (by kernel_rfl) c_runs_Runs_Count rfl
theorem k_runs_Runs_Misses : FnOK Tryz.prog n_runs_Runs_Misses d_runs_Runs_Misses := fnOK mixed Tryz.func9 (by kernel_rfl) c_runs_Runs_Misses
theorem k_runs_Runs_Lost : FnOK Tryz.prog n_runs_Runs_Lost d_runs_Runs_Lost := fnOK mixed Tryz.func10 (by kernel_rfl) c_runs_Runs_Lost
theorem k_runs_New : FnOK Tryz.prog n_runs_New d_runs_New := fnOK mixed Tryz.func11 (by kernel_rfl) c_runs_New
theorem k_slices_Clone : FnOK Tryz.prog n_slices_Clone d_slices_Clone := cloneOK mixed Tryz.func12 (by kernel_rfl) c_slices_Clone rfl
theorem k_runs_Runs_grow : FnOK Tryz.prog n_runs_Runs_grow d_runs_Runs_grow := fnOK mixed Tryz.func13 (by kernel_rfl) c_runs_Runs_grow
theorem k_runs_Runs_Feed_1 : FnOK Tryz.prog n_runs_Runs_Feed_1 d_runs_Runs_Feed_1 := fnOK mixed Tryz.func14 (by kernel_rfl) c_runs_Runs_Feed_1
theorem k_step_Done : FnOK Tryz.prog n_step_Done d_step_Done := fnOK mixed Tryz.func15 (by kernel_rfl) c_step_Done
theorem k_runs_mapped : FnOK Tryz.prog n_runs_mapped d_runs_mapped := fnOK mixed Tryz.func16 (by kernel_rfl) c_runs_mapped
theorem k_runs_Runs_Feed_2 : FnOK Tryz.prog n_runs_Runs_Feed_2 d_runs_Runs_Feed_2 := fnOK mixed Tryz.func17 (by kernel_rfl) c_runs_Runs_Feed_2
theorem k_runs_Runs_found : FnOK Tryz.prog n_runs_Runs_found d_runs_Runs_found := fnOK mixed Tryz.func18 (by kernel_rfl) c_runs_Runs_found
theorem k_chain_Chain_Push : FnOK Tryz.prog n_chain_Chain_Push d_chain_Chain_Push := fnOK mixed Tryz.func19 (by kernel_rfl) c_chain_Chain_Push
theorem k_chain_Chain_Keep : FnOK Tryz.prog n_chain_Chain_Keep d_chain_Chain_Keep := fnOK mixed Tryz.func20 (by kernel_rfl) c_chain_Chain_Keep
theorem k_chain_Chain_Drop : FnOK Tryz.prog n_chain_Chain_Drop d_chain_Chain_Drop := fnOK mixed Tryz.func21 (by kernel_rfl) c_chain_Chain_Drop
theorem k_slices_SortStableFunc : FnOK Tryz.prog n_slices_SortStableFunc d_slices_SortStableFunc := fnOK mixed Tryz.func22 (by kernel_rfl) c_slices_SortStableFunc
theorem k_runs_Runs_Feed_3 : FnOK Tryz.prog n_runs_Runs_Feed_3 d_runs_Runs_Feed_3 := fnOK mixed Tryz.func23 (by kernel_rfl) c_runs_Runs_Feed_3
theorem k_tuple_Compare : FnOK Tryz.prog n_tuple_Compare d_tuple_Compare := fnOK mixed Tryz.func24 (by kernel_rfl) c_tuple_Compare
theorem k_sibyllaw14_feed : FnOK Tryz.prog n_sibyllaw14_feed d_sibyllaw14_feed := fnOK mixed Tryz.func25 (by kernel_rfl) c_sibyllaw14_feed
theorem k_slices_SortFunc : FnOK Tryz.prog n_slices_SortFunc d_slices_SortFunc := fnOK mixed Tryz.func26 (by kernel_rfl) c_slices_SortFunc
theorem k_runs_Runs_End_1 : FnOK Tryz.prog n_runs_Runs_End_1 d_runs_Runs_End_1 := fnOK mixed Tryz.func27 (by kernel_rfl) c_runs_Runs_End_1
theorem k_cmp_Or : FnOK Tryz.prog n_cmp_Or d_cmp_Or := fnOK mixed Tryz.func28 (by kernel_rfl) c_cmp_Or
theorem k_cmp_Compare : FnOK Tryz.prog n_cmp_Compare d_cmp_Compare := fnOK mixed Tryz.func29 (by kernel_rfl) c_cmp_Compare
theorem k_table_Right : FnOK Tryz.prog n_table_Right d_table_Right := fnOK mixed Tryz.func30 (by kernel_rfl) c_table_Right
theorem k_chain_New : FnOK Tryz.prog n_chain_New d_chain_New := fnOK mixed Tryz.func31 (by kernel_rfl) c_chain_New
theorem k_runs_Runs_grow_1 : FnOK Tryz.prog n_runs_Runs_grow_1 d_runs_Runs_grow_1 := fnOK mixed Tryz.func32 (by kernel_rfl) c_runs_Runs_grow_1
theorem k_tuple_Flat : FnOK Tryz.prog n_tuple_Flat d_tuple_Flat := fnOK mixed Tryz.func33 (by kernel_rfl) c_tuple_Flat
theorem k_runs_shifted : FnOK Tryz.prog n_runs_shifted d_runs_shifted := fnOK mixed Tryz.func34 (by kernel_rfl) c_runs_shifted
theorem k_step_Step : FnOK Tryz.prog n_step_Step d_step_Step := fnOK mixed Tryz.func35 (by kernel_rfl) c_step_Step
theorem k_step_Start : FnOK Tryz.prog n_step_Start d_step_Start := fnOK mixed Tryz.func36 (by kernel_rfl) c_step_Start
theorem k_runs_Runs_found_1 : FnOK Tryz.prog n_runs_Runs_found_1 d_runs_Runs_found_1 := fnOK mixed Tryz.func37 (by kernel_rfl) c_runs_Runs_found_1
theorem k_runs_mapped_38 : FnOK Tryz.prog n_runs_mapped_38 d_runs_mapped_38 := fnOK mixed Tryz.func38 (by kernel_rfl) c_runs_mapped_38
theorem k_runs_Runs_found_2 : FnOK Tryz.prog n_runs_Runs_found_2 d_runs_Runs_found_2 := fnOK mixed Tryz.func39 (by kernel_rfl) c_runs_Runs_found_2
theorem k_runs_mapped_40 : FnOK Tryz.prog n_runs_mapped_40 d_runs_mapped_40 := fnOK mixed Tryz.func40 (by kernel_rfl) c_runs_mapped_40
theorem k_runs_Runs_found_2_1 : FnOK Tryz.prog n_runs_Runs_found_2_1 d_runs_Runs_found_2_1 := fnOK mixed Tryz.func41 (by kernel_rfl) c_runs_Runs_found_2_1
theorem k_runs_mapped_42 : FnOK Tryz.prog n_runs_mapped_42 d_runs_mapped_42 := fnOK mixed Tryz.func42 (by kernel_rfl) c_runs_mapped_42
theorem k_runs_Runs_found_3 : FnOK Tryz.prog n_runs_Runs_found_3 d_runs_Runs_found_3 := fnOK mixed Tryz.func43 (by kernel_rfl) c_runs_Runs_found_3
theorem k_chain_Chain_at : FnOK Tryz.prog n_chain_Chain_at d_chain_Chain_at := fnOK mixed Tryz.func44 (by kernel_rfl) c_chain_Chain_at
theorem k_slices_stableCmpFunc : FnOK Tryz.prog n_slices_stableCmpFunc d_slices_stableCmpFunc := fnOK mixed Tryz.func45 (by kernel_rfl) c_slices_stableCmpFunc
theorem k_slices_CompareFunc : FnOK Tryz.prog n_slices_CompareFunc d_slices_CompareFunc := fnOK mixed Tryz.func46 (by kernel_rfl) c_slices_CompareFunc
theorem k_tuple_Compare_1 : FnOK Tryz.prog n_tuple_Compare_1 d_tuple_Compare_1 := fnOK mixed Tryz.func47 (by kernel_rfl) c_tuple_Compare_1
theorem k_slices_Compare : FnOK Tryz.prog n_slices_Compare d_slices_Compare := fnOK mixed Tryz.func48 (by kernel_rfl) c_slices_Compare
theorem k_sibyllaw14_feed_1 : FnOK Tryz.prog n_sibyllaw14_feed_1 d_sibyllaw14_feed_1 := fnOK mixed Tryz.func49 (by kernel_rfl) c_sibyllaw14_feed_1
theorem k_sibyllaw14_stamp : FnOK Tryz.prog n_sibyllaw14_stamp d_sibyllaw14_stamp := fnOK mixed Tryz.func50 (by kernel_rfl) c_sibyllaw14_stamp
theorem k_slices_pdqsortCmpFunc : FnOK Tryz.prog n_slices_pdqsortCmpFunc d_slices_pdqsortCmpFunc := fnOK mixed Tryz.func51 (by kernel_rfl) c_slices_pdqsortCmpFunc
theorem k_math_bits_Len : FnOK Tryz.prog n_math_bits_Len d_math_bits_Len := fnOK mixed Tryz.func52 (by kernel_rfl) c_math_bits_Len
theorem k_cmp_isNaN : FnOK Tryz.prog n_cmp_isNaN d_cmp_isNaN := fnOK mixed Tryz.func53 (by kernel_rfl) c_cmp_isNaN
theorem k_table_Right_1 : FnOK Tryz.prog n_table_Right_1 d_table_Right_1 := fnOK mixed Tryz.func54 (by kernel_rfl) c_table_Right_1
theorem k_table_typed : FnOK Tryz.prog n_table_typed d_table_typed := fnOK mixed Tryz.func55 (by kernel_rfl) c_table_typed
theorem k_table_may : FnOK Tryz.prog n_table_may d_table_may := fnOK mixed Tryz.func56 (by kernel_rfl) c_table_may
theorem k_slices_ContainsFunc : FnOK Tryz.prog n_slices_ContainsFunc d_slices_ContainsFunc := fnOK mixed Tryz.func57 (by kernel_rfl) c_slices_ContainsFunc
theorem k_slices_Concat : FnOK Tryz.prog n_slices_Concat d_slices_Concat := fnOK mixed Tryz.func58 (by kernel_rfl) c_slices_Concat
theorem k_runs_shifted_1 : FnOK Tryz.prog n_runs_shifted_1 d_runs_shifted_1 := fnOK mixed Tryz.func59 (by kernel_rfl) c_runs_shifted_1
theorem k_runs_shifted_1_1 : FnOK Tryz.prog n_runs_shifted_1_1 d_runs_shifted_1_1 := fnOK mixed Tryz.func60 (by kernel_rfl) c_runs_shifted_1_1
theorem k_step_Fits : FnOK Tryz.prog n_step_Fits d_step_Fits := fnOK mixed Tryz.func61 (by kernel_rfl) c_step_Fits
theorem k_step_Step_1 : FnOK Tryz.prog n_step_Step_1 d_step_Step_1 := fnOK mixed Tryz.func62 (by kernel_rfl) c_step_Step_1
theorem k_step_copied : FnOK Tryz.prog n_step_copied d_step_copied := fnOK mixed Tryz.func63 (by kernel_rfl) c_step_copied
theorem k_step_barred : FnOK Tryz.prog n_step_barred d_step_barred := fnOK mixed Tryz.func64 (by kernel_rfl) c_step_barred
theorem k_step_takes : FnOK Tryz.prog n_step_takes d_step_takes := fnOK mixed Tryz.func65 (by kernel_rfl) c_step_takes
theorem k_step_with : FnOK Tryz.prog n_step_with d_step_with := fnOK mixed Tryz.func66 (by kernel_rfl) c_step_with
theorem k_slices_insertionSortCmpFunc : FnOK Tryz.prog n_slices_insertionSortCmpFunc d_slices_insertionSortCmpFunc := fnOK mixed Tryz.func67 (by kernel_rfl) c_slices_insertionSortCmpFunc
theorem k_slices_symMergeCmpFunc : FnOK Tryz.prog n_slices_symMergeCmpFunc d_slices_symMergeCmpFunc := fnOK mixed Tryz.func68 (by kernel_rfl) c_slices_symMergeCmpFunc
theorem k_slices_insertionSortCmpFunc_69 : FnOK Tryz.prog n_slices_insertionSortCmpFunc_69 d_slices_insertionSortCmpFunc_69 := fnOK mixed Tryz.func69 (by kernel_rfl) c_slices_insertionSortCmpFunc_69
theorem k_slices_heapSortCmpFunc : FnOK Tryz.prog n_slices_heapSortCmpFunc d_slices_heapSortCmpFunc := fnOK mixed Tryz.func70 (by kernel_rfl) c_slices_heapSortCmpFunc
theorem k_slices_breakPatternsCmpFunc : FnOK Tryz.prog n_slices_breakPatternsCmpFunc d_slices_breakPatternsCmpFunc := fnOK mixed Tryz.func71 (by kernel_rfl) c_slices_breakPatternsCmpFunc
theorem k_slices_choosePivotCmpFunc : FnOK Tryz.prog n_slices_choosePivotCmpFunc d_slices_choosePivotCmpFunc := fnOK mixed Tryz.func72 (by kernel_rfl) c_slices_choosePivotCmpFunc
theorem k_slices_reverseRangeCmpFunc : FnOK Tryz.prog n_slices_reverseRangeCmpFunc d_slices_reverseRangeCmpFunc := fnOK mixed Tryz.func73 (by kernel_rfl) c_slices_reverseRangeCmpFunc
theorem k_slices_partialInsertionSortCmpFunc : FnOK Tryz.prog n_slices_partialInsertionSortCmpFunc d_slices_partialInsertionSortCmpFunc := fnOK mixed Tryz.func74 (by kernel_rfl) c_slices_partialInsertionSortCmpFunc
theorem k_slices_partitionEqualCmpFunc : FnOK Tryz.prog n_slices_partitionEqualCmpFunc d_slices_partitionEqualCmpFunc := fnOK mixed Tryz.func75 (by kernel_rfl) c_slices_partitionEqualCmpFunc
theorem k_slices_partitionCmpFunc : FnOK Tryz.prog n_slices_partitionCmpFunc d_slices_partitionCmpFunc := fnOK mixed Tryz.func76 (by kernel_rfl) c_slices_partitionCmpFunc
theorem k_math_bits_Len32 : FnOK Tryz.prog n_math_bits_Len32 d_math_bits_Len32 := fnOK mixed Tryz.func77 (by kernel_rfl) c_math_bits_Len32
theorem k_math_bits_Len64 : FnOK Tryz.prog n_math_bits_Len64 d_math_bits_Len64 := fnOK mixed Tryz.func78 (by kernel_rfl) c_math_bits_Len64
theorem k_table_may_1 : FnOK Tryz.prog n_table_may_1 d_table_may_1 := fnOK mixed Tryz.func79 (by kernel_rfl) c_table_may_1
theorem k_table_named : FnOK Tryz.prog n_table_named d_table_named := fnOK mixed Tryz.func80 (by kernel_rfl) c_table_named
theorem k_slices_ContainsFunc_81 : FnOK Tryz.prog n_slices_ContainsFunc_81 d_slices_ContainsFunc_81 := fnOK mixed Tryz.func81 (by kernel_rfl) c_slices_ContainsFunc_81
theorem k_slices_Concat_82 : FnOK Tryz.prog n_slices_Concat_82 d_slices_Concat_82 := fnOK mixed Tryz.func82 (by kernel_rfl) c_slices_Concat_82
theorem k_slices_IndexFunc : FnOK Tryz.prog n_slices_IndexFunc d_slices_IndexFunc := fnOK mixed Tryz.func83 (by kernel_rfl) c_slices_IndexFunc
theorem k_slices_Grow : FnOK Tryz.prog n_slices_Grow d_slices_Grow := fnOK mixed Tryz.func84 (by kernel_rfl) c_slices_Grow
theorem k_slices_Clone_85 : FnOK Tryz.prog n_slices_Clone_85 d_slices_Clone_85 := cloneOK mixed Tryz.func85 (by kernel_rfl) c_slices_Clone_85 rfl
theorem k_step_barred_1 : FnOK Tryz.prog n_step_barred_1 d_step_barred_1 := fnOK mixed Tryz.func86 (by kernel_rfl) c_step_barred_1
theorem k_pred_All : FnOK Tryz.prog n_pred_All d_pred_All := fnOK mixed Tryz.func87 (by kernel_rfl) c_pred_All
theorem k_step_sets : FnOK Tryz.prog n_step_sets d_step_sets := fnOK mixed Tryz.func88 (by kernel_rfl) c_step_sets
theorem k_slices_rotateCmpFunc : FnOK Tryz.prog n_slices_rotateCmpFunc d_slices_rotateCmpFunc := fnOK mixed Tryz.func89 (by kernel_rfl) c_slices_rotateCmpFunc
theorem k_slices_siftDownCmpFunc : FnOK Tryz.prog n_slices_siftDownCmpFunc d_slices_siftDownCmpFunc := fnOK mixed Tryz.func90 (by kernel_rfl) c_slices_siftDownCmpFunc
theorem k_slices_nextPowerOfTwo : FnOK Tryz.prog n_slices_nextPowerOfTwo d_slices_nextPowerOfTwo := fnOK mixed Tryz.func91 (by kernel_rfl) c_slices_nextPowerOfTwo
theorem k_slices_xorshift_Next : FnOK Tryz.prog n_slices_xorshift_Next d_slices_xorshift_Next := fnOK mixed Tryz.func92 (by kernel_rfl) c_slices_xorshift_Next
theorem k_slices_medianAdjacentCmpFunc : FnOK Tryz.prog n_slices_medianAdjacentCmpFunc d_slices_medianAdjacentCmpFunc := fnOK mixed Tryz.func93 (by kernel_rfl) c_slices_medianAdjacentCmpFunc
theorem k_slices_medianCmpFunc : FnOK Tryz.prog n_slices_medianCmpFunc d_slices_medianCmpFunc := fnOK mixed Tryz.func94 (by kernel_rfl) c_slices_medianCmpFunc
theorem k_slices_IndexFunc_95 : FnOK Tryz.prog n_slices_IndexFunc_95 d_slices_IndexFunc_95 := fnOK mixed Tryz.func95 (by kernel_rfl) c_slices_IndexFunc_95
theorem k_slices_Grow_96 : FnOK Tryz.prog n_slices_Grow_96 d_slices_Grow_96 := fnOK mixed Tryz.func96 (by kernel_rfl) c_slices_Grow_96
theorem k_pred_Holds : FnOK Tryz.prog n_pred_Holds d_pred_Holds := fnOK mixed Tryz.func97 (by kernel_rfl) c_pred_Holds
theorem k_slices_swapRangeCmpFunc : FnOK Tryz.prog n_slices_swapRangeCmpFunc d_slices_swapRangeCmpFunc := fnOK mixed Tryz.func98 (by kernel_rfl) c_slices_swapRangeCmpFunc
theorem k_slices_order2CmpFunc : FnOK Tryz.prog n_slices_order2CmpFunc d_slices_order2CmpFunc := fnOK mixed Tryz.func99 (by kernel_rfl) c_slices_order2CmpFunc
theorem k_pred_Eval : FnOK Tryz.prog n_pred_Eval d_pred_Eval := fnOK mixed Tryz.func100 (by kernel_rfl) c_pred_Eval
theorem k_num_Test : FnOK Tryz.prog n_num_Test d_num_Test := fnOK mixed Tryz.func101 (by kernel_rfl) c_num_Test
theorem k_pred_Eval_1 : FnOK Tryz.prog n_pred_Eval_1 d_pred_Eval_1 := fnOK mixed Tryz.func102 (by kernel_rfl) c_pred_Eval_1
theorem k_pred_Eval_2 : FnOK Tryz.prog n_pred_Eval_2 d_pred_Eval_2 := fnOK mixed Tryz.func103 (by kernel_rfl) c_pred_Eval_2
theorem k_pred_last : FnOK Tryz.prog n_pred_last d_pred_last := fnOK mixed Tryz.func104 (by kernel_rfl) c_pred_last
theorem k_num_Do : FnOK Tryz.prog n_num_Do d_num_Do := fnOK mixed Tryz.func105 (by kernel_rfl) c_num_Do
theorem progOK : @ProgOK _ (siteRel Tryz.prog) Tryz.prog prog :=
  progOK_cons k_sibyllaw14_RunsNil (progOK_cons k_runs_Runs_Feed (progOK_cons k_sibyllaw14_RunsNil_1 (progOK_cons k_sibyllaw14_awake (progOK_cons k_runs_Runs_End (progOK_cons k_runs_Runs_Count (progOK_cons k_runs_Runs_Misses (progOK_cons k_runs_Runs_Lost (progOK_cons k_runs_New (progOK_cons k_slices_Clone (progOK_cons k_runs_Runs_grow (progOK_cons k_runs_Runs_Feed_1 (progOK_cons k_step_Done (progOK_cons k_runs_mapped (progOK_cons k_runs_Runs_Feed_2 (progOK_cons k_runs_Runs_found (progOK_cons k_chain_Chain_Push (progOK_cons k_chain_Chain_Keep (progOK_cons k_chain_Chain_Drop (progOK_cons k_slices_SortStableFunc (progOK_cons k_runs_Runs_Feed_3 (progOK_cons k_tuple_Compare (progOK_cons k_sibyllaw14_feed (progOK_cons k_slices_SortFunc (progOK_cons k_runs_Runs_End_1 (progOK_cons k_cmp_Or (progOK_cons k_cmp_Compare (progOK_cons k_table_Right (progOK_cons k_chain_New (progOK_cons k_runs_Runs_grow_1 (progOK_cons k_tuple_Flat (progOK_cons k_runs_shifted (progOK_cons k_step_Step (progOK_cons k_step_Start (progOK_cons k_runs_Runs_found_1 (progOK_cons k_runs_mapped_38 (progOK_cons k_runs_Runs_found_2 (progOK_cons k_runs_mapped_40 (progOK_cons k_runs_Runs_found_2_1 (progOK_cons k_runs_mapped_42 (progOK_cons k_runs_Runs_found_3 (progOK_cons k_chain_Chain_at (progOK_cons k_slices_stableCmpFunc (progOK_cons k_slices_CompareFunc (progOK_cons k_tuple_Compare_1 (progOK_cons k_slices_Compare (progOK_cons k_sibyllaw14_feed_1 (progOK_cons k_sibyllaw14_stamp (progOK_cons k_slices_pdqsortCmpFunc (progOK_cons k_math_bits_Len (progOK_cons k_cmp_isNaN (progOK_cons k_table_Right_1 (progOK_cons k_table_typed (progOK_cons k_table_may (progOK_cons k_slices_ContainsFunc (progOK_cons k_slices_Concat (progOK_cons k_runs_shifted_1 (progOK_cons k_runs_shifted_1_1 (progOK_cons k_step_Fits (progOK_cons k_step_Step_1 (progOK_cons k_step_copied (progOK_cons k_step_barred (progOK_cons k_step_takes (progOK_cons k_step_with (progOK_cons k_slices_insertionSortCmpFunc (progOK_cons k_slices_symMergeCmpFunc (progOK_cons k_slices_insertionSortCmpFunc_69 (progOK_cons k_slices_heapSortCmpFunc (progOK_cons k_slices_breakPatternsCmpFunc (progOK_cons k_slices_choosePivotCmpFunc (progOK_cons k_slices_reverseRangeCmpFunc (progOK_cons k_slices_partialInsertionSortCmpFunc (progOK_cons k_slices_partitionEqualCmpFunc (progOK_cons k_slices_partitionCmpFunc (progOK_cons k_math_bits_Len32 (progOK_cons k_math_bits_Len64 (progOK_cons k_table_may_1 (progOK_cons k_table_named (progOK_cons k_slices_ContainsFunc_81 (progOK_cons k_slices_Concat_82 (progOK_cons k_slices_IndexFunc (progOK_cons k_slices_Grow (progOK_cons k_slices_Clone_85 (progOK_cons k_step_barred_1 (progOK_cons k_pred_All (progOK_cons k_step_sets (progOK_cons k_slices_rotateCmpFunc (progOK_cons k_slices_siftDownCmpFunc (progOK_cons k_slices_nextPowerOfTwo (progOK_cons k_slices_xorshift_Next (progOK_cons k_slices_medianAdjacentCmpFunc (progOK_cons k_slices_medianCmpFunc (progOK_cons k_slices_IndexFunc_95 (progOK_cons k_slices_Grow_96 (progOK_cons k_pred_Holds (progOK_cons k_slices_swapRangeCmpFunc (progOK_cons k_slices_order2CmpFunc (progOK_cons k_pred_Eval (progOK_cons k_num_Test (progOK_cons k_pred_Eval_1 (progOK_cons k_pred_Eval_2 (progOK_cons k_pred_last (progOK_cons k_num_Do (progOK_nil _)))))))))))))))))))))))))))))))))))))))))))))))))))))))))))))))))))))))))))))))))))))))))))))))))))))))
theorem callOK : @CallOK _ (siteRel Tryz.prog) Tryz.prog C0 := calls_ok mixed progOK rfl
end Go.Proofs.YtlpdigdeplaffaaGreat.bind
