/- Each function of D's list is the program's function of that number: D's calls are the model's. No condition. -/
import Derived.Test.YtfibhjillbichaaGreatDoorRows
import Derived.Test.YtfibhjillbichaaGreatDoorP
import Derived.KernelRfl
namespace Go.Proofs.YtfibhjillbichaaGreatDoor.bind
open Go Dk Dk.N
theorem c_sibyllaw23_EngineNil : compFn Tryz.prog (drawOf Tryz.prog Tryz.f3.ntmps (plans [(4, [0, 1, 2, 3, 4])])) [] false true Tryz.f3 = some { d_sibyllaw23_EngineNil with sha := false } := by kernel_rfl
theorem c_sibylref23_Rest : compFn Tryz.prog (drawOf Tryz.prog Tryz.f4.ntmps (plans [])) [] false true Tryz.f4 = some { d_sibylref23_Rest with sha := false } := by kernel_rfl
theorem c_sibylref19_Right : compFn Tryz.prog (drawOf Tryz.prog Tryz.f5.ntmps (plans [])) [[1, 3, 4]] false true Tryz.f5 = some { d_sibylref19_Right with sha := false } := by kernel_rfl
theorem c_engine_New : compFn Tryz.prog (drawOf Tryz.prog Tryz.f6.ntmps (plans [(19, [0, 1, 2, 3, 4, 5, 6, 7, 8, 9, 10, 11, 12, 13, 14])])) [[2, 5, 6, 26, 27, 28], [5, 6, 62, 63]] false false Tryz.f6 = some { d_engine_New with sha := false } := by kernel_rfl
theorem c_engine_Engine_Step : compFn Tryz.prog (drawOf Tryz.prog Tryz.f7.ntmps (plans [(4, [0, 1, 2, 3, 4, 5, 6, 7, 8, 9, 10, 11, 12, 13, 14])])) [] false false Tryz.f7 = some { d_engine_Engine_Step with sha := false } := by kernel_rfl
theorem c_engine_Engine_Tasks : compFn Tryz.prog (drawOf Tryz.prog Tryz.f8.ntmps (plans [])) [] false false Tryz.f8 = some { d_engine_Engine_Tasks with sha := false } := by kernel_rfl
theorem c_engine_Engine_Steps : compFn Tryz.prog (drawOf Tryz.prog Tryz.f9.ntmps (plans [])) [] false false Tryz.f9 = some { d_engine_Engine_Steps with sha := false } := by kernel_rfl
theorem c_engine_Engine_Round : compFn Tryz.prog (drawOf Tryz.prog Tryz.f10.ntmps (plans [])) [[0, 3], [0, 3, 16, 17]] false false Tryz.f10 = some { d_engine_Engine_Round with sha := false } := by kernel_rfl
theorem c_engine_Engine_Ended : compFn Tryz.prog (drawOf Tryz.prog Tryz.f11.ntmps (plans [])) [] false false Tryz.f11 = some { d_engine_Engine_Ended with sha := false } := by kernel_rfl
theorem c_engine_Engine_Open : compFn Tryz.prog (drawOf Tryz.prog Tryz.f12.ntmps (plans [])) [[3, 11, 12, 13]] false false Tryz.f12 = some { d_engine_Engine_Open with sha := false } := by kernel_rfl
theorem c_engine_Engine_Quiet : compFn Tryz.prog (drawOf Tryz.prog Tryz.f13.ntmps (plans [])) [] false false Tryz.f13 = some { d_engine_Engine_Quiet with sha := false } := by kernel_rfl
theorem c_engine_Engine_Log : compFn Tryz.prog (drawOf Tryz.prog Tryz.f14.ntmps (plans [])) [] false false Tryz.f14 = some { d_engine_Engine_Log with sha := false } := by kernel_rfl
theorem c_engine_Engine_Worker : compFn Tryz.prog (drawOf Tryz.prog Tryz.f15.ntmps (plans [])) [] false false Tryz.f15 = some { d_engine_Engine_Worker with sha := false } := by kernel_rfl
theorem c_engine_Engine_Merger : compFn Tryz.prog (drawOf Tryz.prog Tryz.f16.ntmps (plans [])) [] false false Tryz.f16 = some { d_engine_Engine_Merger with sha := false } := by kernel_rfl
theorem c_sibylref23_Spec_Config : compFn Tryz.prog (drawOf Tryz.prog Tryz.f17.ntmps (plans [(1, [0, 1, 4, 5, 8, 9, 12, 13, 16, 17, 20, 21, 24, 25, 2, 3, 6, 7, 10, 11, 14, 15, 18, 19, 22, 23, 26, 27, 28, 29])])) [] false false Tryz.f17 = some { d_sibylref23_Spec_Config with sha := false } := by kernel_rfl
theorem c_sibyllaw23_awake : compFn Tryz.prog (drawOf Tryz.prog Tryz.f18.ntmps (plans [])) [] false true Tryz.f18 = some { d_sibyllaw23_awake with sha := false } := by kernel_rfl
theorem c_log_New : compFn Tryz.prog (drawOf Tryz.prog Tryz.f19.ntmps (plans [(3, [0, 1, 2, 4, 5, 6, 9, 10, 12, 13, 14, 15, 3, 7, 8, 11, 16, 17, 18]), (6, [0, 1, 2, 3, 4, 5, 6, 7, 8, 9, 10, 11, 12])])) [[1, 3, 26, 27]] false false Tryz.f19 = some { d_log_New with sha := false } := by kernel_rfl
theorem c_merger_New : compFn Tryz.prog (drawOf Tryz.prog Tryz.f20.ntmps (plans [])) [] false false Tryz.f20 = some { d_merger_New with sha := false } := by kernel_rfl
theorem c_slices_Clone : compClone Tryz.prog (drawOf Tryz.prog Tryz.f21.ntmps fun _ => none) Tryz.f21 = some d_slices_Clone := by kernel_rfl
theorem c_engine_user_step : compFn Tryz.prog (drawOf Tryz.prog Tryz.f22.ntmps (plans [(7, [0, 1, 2, 3, 4, 5, 6, 7, 8, 9, 10]), (2, [0, 1, 2, 3, 4, 5, 6, 7, 8, 9, 10, 11, 12, 13, 14, 15, 16, 17, 18, 19, 20, 21]), (10, [0, 1, 2, 3, 4, 5, 6, 7, 8, 9, 10, 11, 12, 13, 14])])) [] false false Tryz.f22 = some { d_engine_user_step with sha := false } := by kernel_rfl
theorem c_worker_New : compFn Tryz.prog (drawOf Tryz.prog Tryz.f23.ntmps (plans [])) [] false false Tryz.f23 = some { d_worker_New with sha := false } := by kernel_rfl
theorem c_worker_Worker_Step : compFn Tryz.prog (drawOf Tryz.prog Tryz.f24.ntmps (plans [])) [] false false Tryz.f24 = some { d_worker_Worker_Step with sha := false } := by kernel_rfl
theorem c_merger_Merger_Step : compFn Tryz.prog (drawOf Tryz.prog Tryz.f25.ntmps (plans [])) [] false false Tryz.f25 = some { d_merger_Merger_Step with sha := false } := by kernel_rfl
theorem c_slices_Clone_26 : compClone Tryz.prog (drawOf Tryz.prog Tryz.f26.ntmps fun _ => none) Tryz.f26 = some d_slices_Clone_26 := by kernel_rfl
theorem c_engine_user_done : compFn Tryz.prog (drawOf Tryz.prog Tryz.f27.ntmps (plans [(1, [0, 1, 2, 3, 4, 5, 6, 7, 8, 9, 10, 11, 12, 13, 14, 15, 16, 17, 19, 20, 21, 22, 23, 24, 25, 26, 27, 28, 29, 31, 18, 30, 32])])) [] false false Tryz.f27 = some { d_engine_user_done with sha := false } := by kernel_rfl
theorem c_log_Log_Tail : compFn Tryz.prog (drawOf Tryz.prog Tryz.f28.ntmps (plans [(3, [0, 1, 2, 3, 4, 5, 6, 7, 8, 9])])) [] false false Tryz.f28 = some { d_log_Log_Tail with sha := false } := by kernel_rfl
theorem c_engine_Engine_Quiet_1 : compFn Tryz.prog (drawOf Tryz.prog Tryz.f29.ntmps (plans [(1, [0, 1, 2, 3, 4, 5, 6, 7, 8, 9, 10, 11, 12, 13, 14, 15, 16, 17])])) [] false false Tryz.f29 = some { d_engine_Engine_Quiet_1 with sha := false } := by kernel_rfl
theorem c_engine_Engine_Quiet_2 : compFn Tryz.prog (drawOf Tryz.prog Tryz.f30.ntmps (plans [])) [] false false Tryz.f30 = some { d_engine_Engine_Quiet_2 with sha := false } := by kernel_rfl
theorem c_worker_Worker_Calm : compFn Tryz.prog (drawOf Tryz.prog Tryz.f31.ntmps (plans [])) [] false false Tryz.f31 = some { d_worker_Worker_Calm with sha := false } := by kernel_rfl
theorem c_log_Log_Low : compFn Tryz.prog (drawOf Tryz.prog Tryz.f32.ntmps (plans [])) [] false false Tryz.f32 = some { d_log_Log_Low with sha := false } := by kernel_rfl
theorem c_merger_Merger_Calm : compFn Tryz.prog (drawOf Tryz.prog Tryz.f33.ntmps (plans [])) [] false false Tryz.f33 = some { d_merger_Merger_Calm with sha := false } := by kernel_rfl
theorem c_slices_ContainsFunc : compFn Tryz.prog (drawOf Tryz.prog Tryz.f34.ntmps (plans [])) [] false false Tryz.f34 = some { d_slices_ContainsFunc with sha := false } := by kernel_rfl
theorem c_slices_ContainsFunc_35 : compFn Tryz.prog (drawOf Tryz.prog Tryz.f35.ntmps (plans [])) [] false false Tryz.f35 = some { d_slices_ContainsFunc_35 with sha := false } := by kernel_rfl
theorem c_log_Right : compFn Tryz.prog (drawOf Tryz.prog Tryz.f36.ntmps (plans [])) [[1, 15, 16]] false true Tryz.f36 = some { d_log_Right with sha := false } := by kernel_rfl
theorem c_store_New : compFn Tryz.prog (drawOf Tryz.prog Tryz.f37.ntmps (plans [])) [] false false Tryz.f37 = some { d_store_New with sha := false } := by kernel_rfl
theorem c_epoch_New : compFn Tryz.prog (drawOf Tryz.prog Tryz.f38.ntmps (plans [])) [[3, 14]] false false Tryz.f38 = some { d_epoch_New with sha := false } := by kernel_rfl
theorem c_ring_New : compFn Tryz.prog (drawOf Tryz.prog Tryz.f39.ntmps (plans [])) [] false false Tryz.f39 = some { d_ring_New with sha := false } := by kernel_rfl
theorem c_ring_New_40 : compFn Tryz.prog (drawOf Tryz.prog Tryz.f40.ntmps (plans [])) [] false false Tryz.f40 = some { d_ring_New_40 with sha := false } := by kernel_rfl
theorem c_log_Log_Config : compFn Tryz.prog (drawOf Tryz.prog Tryz.f41.ntmps (plans [])) [] false false Tryz.f41 = some { d_log_Log_Config with sha := false } := by kernel_rfl
theorem c_queue_New : compFn Tryz.prog (drawOf Tryz.prog Tryz.f42.ntmps (plans [])) [] false false Tryz.f42 = some { d_queue_New with sha := false } := by kernel_rfl
theorem c_client_Client_Step : compFn Tryz.prog (drawOf Tryz.prog Tryz.f43.ntmps (plans [])) [] false false Tryz.f43 = some { d_client_Client_Step with sha := false } := by kernel_rfl
theorem c_client_New : compFn Tryz.prog (drawOf Tryz.prog Tryz.f44.ntmps (plans [])) [] false false Tryz.f44 = some { d_client_New with sha := false } := by kernel_rfl
theorem c_client_Client_Done : compFn Tryz.prog (drawOf Tryz.prog Tryz.f45.ntmps (plans [])) [] false false Tryz.f45 = some { d_client_Client_Done with sha := false } := by kernel_rfl
theorem c_engine_Engine_end : compFn Tryz.prog (drawOf Tryz.prog Tryz.f46.ntmps (plans [])) [] false false Tryz.f46 = some { d_engine_Engine_end with sha := false } := by kernel_rfl
theorem c_shard_New : compFn Tryz.prog (drawOf Tryz.prog Tryz.f47.ntmps (plans [])) [] false false Tryz.f47 = some { d_shard_New with sha := false } := by kernel_rfl
theorem c_worker_Worker_Left : compFn Tryz.prog (drawOf Tryz.prog Tryz.f48.ntmps (plans [])) [] false false Tryz.f48 = some { d_worker_Worker_Left with sha := false } := by kernel_rfl
theorem c_worker_Worker_look : compFn Tryz.prog (drawOf Tryz.prog Tryz.f49.ntmps (plans [(1, [0, 1, 2, 3, 4, 5, 6, 7, 8, 9, 10, 11, 17, 12, 13, 14, 15, 16, 18, 19])])) [] false false Tryz.f49 = some { d_worker_Worker_look with sha := false } := by kernel_rfl
theorem c_merger_Merger_collect : compFn Tryz.prog (drawOf Tryz.prog Tryz.f50.ntmps (plans [])) [] false false Tryz.f50 = some { d_merger_Merger_collect with sha := false } := by kernel_rfl
theorem c_client_Client_Stamp : compFn Tryz.prog (drawOf Tryz.prog Tryz.f51.ntmps (plans [])) [] false false Tryz.f51 = some { d_client_Client_Stamp with sha := false } := by kernel_rfl
theorem c_client_Client_Answer : compFn Tryz.prog (drawOf Tryz.prog Tryz.f52.ntmps (plans [])) [] false false Tryz.f52 = some { d_client_Client_Answer with sha := false } := by kernel_rfl
theorem c_ring_Ring_Low : compFn Tryz.prog (drawOf Tryz.prog Tryz.f53.ntmps (plans [])) [] false false Tryz.f53 = some { d_ring_Ring_Low with sha := false } := by kernel_rfl
theorem c_slices_IndexFunc : compFn Tryz.prog (drawOf Tryz.prog Tryz.f54.ntmps (plans [])) [[0, 1, 7, 8]] false false Tryz.f54 = some { d_slices_IndexFunc with sha := false } := by kernel_rfl
theorem c_slices_IndexFunc_55 : compFn Tryz.prog (drawOf Tryz.prog Tryz.f55.ntmps (plans [])) [[0, 1, 7, 8]] false false Tryz.f55 = some { d_slices_IndexFunc_55 with sha := false } := by kernel_rfl
theorem c_client_Client_look : compFn Tryz.prog (drawOf Tryz.prog Tryz.f56.ntmps (plans [])) [] false false Tryz.f56 = some { d_client_Client_look with sha := false } := by kernel_rfl
theorem c_client_Client_end : compFn Tryz.prog (drawOf Tryz.prog Tryz.f58.ntmps (plans [])) [] false false Tryz.f58 = some { d_client_Client_end with sha := false } := by kernel_rfl
theorem c_shard_within : compFn Tryz.prog (drawOf Tryz.prog Tryz.f59.ntmps (plans [])) [] false true Tryz.f59 = some { d_shard_within with sha := false } := by kernel_rfl
theorem c_log_Log_Look : compFn Tryz.prog (drawOf Tryz.prog Tryz.f60.ntmps (plans [])) [] false false Tryz.f60 = some { d_log_Log_Look with sha := false } := by kernel_rfl
theorem c_log_Log_Cursor : compFn Tryz.prog (drawOf Tryz.prog Tryz.f61.ntmps (plans [])) [] false false Tryz.f61 = some { d_log_Log_Cursor with sha := false } := by kernel_rfl
theorem c_worker_Worker_pin : compFn Tryz.prog (drawOf Tryz.prog Tryz.f62.ntmps (plans [(0, [0, 1, 2, 3, 5, 6, 7, 8, 4, 9])])) [] false false Tryz.f62 = some { d_worker_Worker_pin with sha := false } := by kernel_rfl
theorem c_log_Log_Collect : compFn Tryz.prog (drawOf Tryz.prog Tryz.f63.ntmps (plans [(1, [0, 1, 7, 2, 3, 4, 5, 6, 8, 9])])) [[1, 7, 37, 38, 39]] false false Tryz.f63 = some { d_log_Log_Collect with sha := false } := by kernel_rfl
theorem c_merger_Merger_do : compFn Tryz.prog (drawOf Tryz.prog Tryz.f64.ntmps (plans [(2, [0, 1, 2, 3, 4, 5, 6, 7, 8, 9, 10, 11, 12, 13, 14, 15, 16, 17, 18, 19, 20, 21])])) [] false false Tryz.f64 = some { d_merger_Merger_do with sha := false } := by kernel_rfl
theorem c_client_Client_room : compFn Tryz.prog (drawOf Tryz.prog Tryz.f65.ntmps (plans [(1, [0, 1, 2, 3, 4, 5, 6, 7, 10, 11, 12, 13, 8, 9, 14, 15, 16, 17])])) [] false false Tryz.f65 = some { d_client_Client_room with sha := false } := by kernel_rfl
theorem c_ring_Ring_Get : compFn Tryz.prog (drawOf Tryz.prog Tryz.f68.ntmps (plans [(5, [0, 1, 2, 3, 4, 5, 6, 7, 8, 9])])) [] false false Tryz.f68 = some { d_ring_Ring_Get with sha := false } := by kernel_rfl
theorem c_log_Log_Epochs : compFn Tryz.prog (drawOf Tryz.prog Tryz.f69.ntmps (plans [])) [] false false Tryz.f69 = some { d_log_Log_Epochs with sha := false } := by kernel_rfl
theorem c_log_Log_Collect_1 : compFn Tryz.prog (drawOf Tryz.prog Tryz.f72.ntmps (plans [])) [] false false Tryz.f72 = some { d_log_Log_Collect_1 with sha := false } := by kernel_rfl
theorem c_slices_ContainsFunc_73 : compFn Tryz.prog (drawOf Tryz.prog Tryz.f73.ntmps (plans [])) [] false false Tryz.f73 = some { d_slices_ContainsFunc_73 with sha := false } := by kernel_rfl
theorem c_ring_Ring_Get_74 : compFn Tryz.prog (drawOf Tryz.prog Tryz.f74.ntmps (plans [(5, [0, 1, 2, 3, 4, 5, 6, 7, 8, 9])])) [] false false Tryz.f74 = some { d_ring_Ring_Get_74 with sha := false } := by kernel_rfl
theorem c_ring_Ring_at : compFn Tryz.prog (drawOf Tryz.prog Tryz.f86.ntmps (plans [(1, [0, 1, 2, 3, 4, 5, 6, 7, 8, 9, 10, 11, 12, 13, 14, 15, 16, 17, 18, 19, 20, 21, 22, 23]), (3, [0, 1, 2, 3, 4, 5, 6, 7, 8, 9, 10, 11, 12])])) [] false false Tryz.f86 = some { d_ring_Ring_at with sha := false } := by kernel_rfl
theorem c_slices_IndexFunc_92 : compFn Tryz.prog (drawOf Tryz.prog Tryz.f92.ntmps (plans [])) [[0, 1, 7, 8]] false false Tryz.f92 = some { d_slices_IndexFunc_92 with sha := false } := by kernel_rfl
theorem c_ring_Ring_at_93 : compFn Tryz.prog (drawOf Tryz.prog Tryz.f93.ntmps (plans [(1, [0, 1, 2, 3, 4, 5, 6, 7, 8, 9, 10, 11, 12, 13, 14, 15, 16, 17, 18, 19, 20, 21, 22, 23]), (3, [0, 1, 2, 3, 4, 5, 6, 7, 8, 9, 10, 11, 12])])) [] false false Tryz.f93 = some { d_ring_Ring_at_93 with sha := false } := by kernel_rfl
theorem mixed : Tryz.prog.follows .mixedOrders = true := by kernel_rfl
theorem k_sibyllaw23_EngineNil : FnOK Tryz.prog n_sibyllaw23_EngineNil d_sibyllaw23_EngineNil := fnOK mixed Tryz.func3 (by kernel_rfl) c_sibyllaw23_EngineNil
theorem k_sibylref23_Rest : FnOK Tryz.prog n_sibylref23_Rest d_sibylref23_Rest := fnOK mixed Tryz.func4 (by kernel_rfl) c_sibylref23_Rest
theorem k_sibylref19_Right : FnOK Tryz.prog n_sibylref19_Right d_sibylref19_Right := fnOK mixed Tryz.func5 (by kernel_rfl) c_sibylref19_Right
theorem k_engine_New : FnOK Tryz.prog n_engine_New d_engine_New := fnOK mixed Tryz.func6 (by kernel_rfl) c_engine_New
theorem k_engine_Engine_Step : FnOK Tryz.prog n_engine_Engine_Step d_engine_Engine_Step := fnOK mixed Tryz.func7 (by kernel_rfl) c_engine_Engine_Step
theorem k_engine_Engine_Tasks : FnOK Tryz.prog n_engine_Engine_Tasks d_engine_Engine_Tasks := fnOK mixed Tryz.func8 (by kernel_rfl) c_engine_Engine_Tasks
theorem k_engine_Engine_Steps : FnOK Tryz.prog n_engine_Engine_Steps d_engine_Engine_Steps := fnOK mixed Tryz.func9 (by kernel_rfl) c_engine_Engine_Steps
theorem k_engine_Engine_Round : FnOK Tryz.prog n_engine_Engine_Round d_engine_Engine_Round := fnOK mixed Tryz.func10 (by kernel_rfl) c_engine_Engine_Round
theorem k_engine_Engine_Ended : FnOK Tryz.prog n_engine_Engine_Ended d_engine_Engine_Ended := fnOK mixed Tryz.func11 (by kernel_rfl) c_engine_Engine_Ended
theorem k_engine_Engine_Open : FnOK Tryz.prog n_engine_Engine_Open d_engine_Engine_Open := fnOK mixed Tryz.func12 (by kernel_rfl) c_engine_Engine_Open
theorem k_engine_Engine_Quiet : FnOK Tryz.prog n_engine_Engine_Quiet d_engine_Engine_Quiet := fnOK mixed Tryz.func13 (by kernel_rfl) c_engine_Engine_Quiet
theorem k_engine_Engine_Log : FnOK Tryz.prog n_engine_Engine_Log d_engine_Engine_Log := fnOK mixed Tryz.func14 (by kernel_rfl) c_engine_Engine_Log
theorem k_engine_Engine_Worker : FnOK Tryz.prog n_engine_Engine_Worker d_engine_Engine_Worker := fnOK mixed Tryz.func15 (by kernel_rfl) c_engine_Engine_Worker
theorem k_engine_Engine_Merger : FnOK Tryz.prog n_engine_Engine_Merger d_engine_Engine_Merger := fnOK mixed Tryz.func16 (by kernel_rfl) c_engine_Engine_Merger
theorem k_sibylref23_Spec_Config : FnOK Tryz.prog n_sibylref23_Spec_Config d_sibylref23_Spec_Config := fnOK mixed Tryz.func17 (by kernel_rfl) c_sibylref23_Spec_Config
theorem k_sibyllaw23_awake : FnOK Tryz.prog n_sibyllaw23_awake d_sibyllaw23_awake := fnOK mixed Tryz.func18 (by kernel_rfl) c_sibyllaw23_awake
theorem k_log_New : FnOK Tryz.prog n_log_New d_log_New := fnOK mixed Tryz.func19 (by kernel_rfl) c_log_New
theorem k_merger_New : FnOK Tryz.prog n_merger_New d_merger_New := fnOK mixed Tryz.func20 (by kernel_rfl) c_merger_New
theorem k_slices_Clone : FnOK Tryz.prog n_slices_Clone d_slices_Clone := cloneOK mixed Tryz.func21 (by kernel_rfl) c_slices_Clone rfl
theorem k_engine_user_step : FnOK Tryz.prog n_engine_user_step d_engine_user_step := fnOK mixed Tryz.func22 (by kernel_rfl) c_engine_user_step
theorem k_worker_New : FnOK Tryz.prog n_worker_New d_worker_New := fnOK mixed Tryz.func23 (by kernel_rfl) c_worker_New
theorem k_worker_Worker_Step : FnOK Tryz.prog n_worker_Worker_Step d_worker_Worker_Step := fnOK mixed Tryz.func24 (by kernel_rfl) c_worker_Worker_Step
theorem k_merger_Merger_Step : FnOK Tryz.prog n_merger_Merger_Step d_merger_Merger_Step := fnOK mixed Tryz.func25 (by kernel_rfl) c_merger_Merger_Step
theorem k_slices_Clone_26 : FnOK Tryz.prog n_slices_Clone_26 d_slices_Clone_26 := cloneOK mixed Tryz.func26 (by kernel_rfl) c_slices_Clone_26 rfl
theorem k_engine_user_done : FnOK Tryz.prog n_engine_user_done d_engine_user_done := fnOK mixed Tryz.func27 (by kernel_rfl) c_engine_user_done
theorem k_log_Log_Tail : FnOK Tryz.prog n_log_Log_Tail d_log_Log_Tail := fnOK mixed Tryz.func28 (by kernel_rfl) c_log_Log_Tail
theorem k_engine_Engine_Quiet_1 : FnOK Tryz.prog n_engine_Engine_Quiet_1 d_engine_Engine_Quiet_1 := fnOK mixed Tryz.func29 (by kernel_rfl) c_engine_Engine_Quiet_1
theorem k_engine_Engine_Quiet_2 : FnOK Tryz.prog n_engine_Engine_Quiet_2 d_engine_Engine_Quiet_2 := fnOK mixed Tryz.func30 (by kernel_rfl) c_engine_Engine_Quiet_2
theorem k_worker_Worker_Calm : FnOK Tryz.prog n_worker_Worker_Calm d_worker_Worker_Calm := fnOK mixed Tryz.func31 (by kernel_rfl) c_worker_Worker_Calm
theorem k_log_Log_Low : FnOK Tryz.prog n_log_Log_Low d_log_Log_Low := fnOK mixed Tryz.func32 (by kernel_rfl) c_log_Log_Low
theorem k_merger_Merger_Calm : FnOK Tryz.prog n_merger_Merger_Calm d_merger_Merger_Calm := fnOK mixed Tryz.func33 (by kernel_rfl) c_merger_Merger_Calm
theorem k_slices_ContainsFunc : FnOK Tryz.prog n_slices_ContainsFunc d_slices_ContainsFunc := fnOK mixed Tryz.func34 (by kernel_rfl) c_slices_ContainsFunc
theorem k_slices_ContainsFunc_35 : FnOK Tryz.prog n_slices_ContainsFunc_35 d_slices_ContainsFunc_35 := fnOK mixed Tryz.func35 (by kernel_rfl) c_slices_ContainsFunc_35
theorem k_log_Right : FnOK Tryz.prog n_log_Right d_log_Right := fnOK mixed Tryz.func36 (by kernel_rfl) c_log_Right
theorem k_store_New : FnOK Tryz.prog n_store_New d_store_New := fnOK mixed Tryz.func37 (by kernel_rfl) c_store_New
theorem k_epoch_New : FnOK Tryz.prog n_epoch_New d_epoch_New := fnOK mixed Tryz.func38 (by kernel_rfl) c_epoch_New
theorem k_ring_New : FnOK Tryz.prog n_ring_New d_ring_New := fnOK mixed Tryz.func39 (by kernel_rfl) c_ring_New
theorem k_ring_New_40 : FnOK Tryz.prog n_ring_New_40 d_ring_New_40 := fnOK mixed Tryz.func40 (by kernel_rfl) c_ring_New_40
theorem k_log_Log_Config : FnOK Tryz.prog n_log_Log_Config d_log_Log_Config := fnOK mixed Tryz.func41 (by kernel_rfl) c_log_Log_Config
theorem k_queue_New : FnOK Tryz.prog n_queue_New d_queue_New := fnOK mixed Tryz.func42 (by kernel_rfl) c_queue_New
theorem k_client_Client_Step : FnOK Tryz.prog n_client_Client_Step d_client_Client_Step := fnOK mixed Tryz.func43 (by kernel_rfl) c_client_Client_Step
theorem k_client_New : FnOK Tryz.prog n_client_New d_client_New := fnOK mixed Tryz.func44 (by kernel_rfl) c_client_New
theorem k_client_Client_Done : FnOK Tryz.prog n_client_Client_Done d_client_Client_Done := fnOK mixed Tryz.func45 (by kernel_rfl) c_client_Client_Done
theorem k_engine_Engine_end : FnOK Tryz.prog n_engine_Engine_end d_engine_Engine_end := fnOK mixed Tryz.func46 (by kernel_rfl) c_engine_Engine_end
theorem k_shard_New : FnOK Tryz.prog n_shard_New d_shard_New := fnOK mixed Tryz.func47 (by kernel_rfl) c_shard_New
theorem k_worker_Worker_Left : FnOK Tryz.prog n_worker_Worker_Left d_worker_Worker_Left := fnOK mixed Tryz.func48 (by kernel_rfl) c_worker_Worker_Left
theorem k_worker_Worker_look : FnOK Tryz.prog n_worker_Worker_look d_worker_Worker_look := fnOK mixed Tryz.func49 (by kernel_rfl) c_worker_Worker_look
theorem k_merger_Merger_collect : FnOK Tryz.prog n_merger_Merger_collect d_merger_Merger_collect := fnOK mixed Tryz.func50 (by kernel_rfl) c_merger_Merger_collect
theorem k_client_Client_Stamp : FnOK Tryz.prog n_client_Client_Stamp d_client_Client_Stamp := fnOK mixed Tryz.func51 (by kernel_rfl) c_client_Client_Stamp
theorem k_client_Client_Answer : FnOK Tryz.prog n_client_Client_Answer d_client_Client_Answer := fnOK mixed Tryz.func52 (by kernel_rfl) c_client_Client_Answer
theorem k_ring_Ring_Low : FnOK Tryz.prog n_ring_Ring_Low d_ring_Ring_Low := fnOK mixed Tryz.func53 (by kernel_rfl) c_ring_Ring_Low
theorem k_slices_IndexFunc : FnOK Tryz.prog n_slices_IndexFunc d_slices_IndexFunc := fnOK mixed Tryz.func54 (by kernel_rfl) c_slices_IndexFunc
theorem k_slices_IndexFunc_55 : FnOK Tryz.prog n_slices_IndexFunc_55 d_slices_IndexFunc_55 := fnOK mixed Tryz.func55 (by kernel_rfl) c_slices_IndexFunc_55
theorem k_client_Client_look : FnOK Tryz.prog n_client_Client_look d_client_Client_look := fnOK mixed Tryz.func56 (by kernel_rfl) c_client_Client_look
theorem k_client_Client_end : FnOK Tryz.prog n_client_Client_end d_client_Client_end := fnOK mixed Tryz.func58 (by kernel_rfl) c_client_Client_end
theorem k_shard_within : FnOK Tryz.prog n_shard_within d_shard_within := fnOK mixed Tryz.func59 (by kernel_rfl) c_shard_within
theorem k_log_Log_Look : FnOK Tryz.prog n_log_Log_Look d_log_Log_Look := fnOK mixed Tryz.func60 (by kernel_rfl) c_log_Log_Look
theorem k_log_Log_Cursor : FnOK Tryz.prog n_log_Log_Cursor d_log_Log_Cursor := fnOK mixed Tryz.func61 (by kernel_rfl) c_log_Log_Cursor
theorem k_worker_Worker_pin : FnOK Tryz.prog n_worker_Worker_pin d_worker_Worker_pin := fnOK mixed Tryz.func62 (by kernel_rfl) c_worker_Worker_pin
theorem k_log_Log_Collect : FnOK Tryz.prog n_log_Log_Collect d_log_Log_Collect := fnOK mixed Tryz.func63 (by kernel_rfl) c_log_Log_Collect
theorem k_merger_Merger_do : FnOK Tryz.prog n_merger_Merger_do d_merger_Merger_do := fnOK mixed Tryz.func64 (by kernel_rfl) c_merger_Merger_do
theorem k_client_Client_room : FnOK Tryz.prog n_client_Client_room d_client_Client_room := fnOK mixed Tryz.func65 (by kernel_rfl) c_client_Client_room
theorem k_ring_Ring_Get : FnOK Tryz.prog n_ring_Ring_Get d_ring_Ring_Get := fnOK mixed Tryz.func68 (by kernel_rfl) c_ring_Ring_Get
theorem k_log_Log_Epochs : FnOK Tryz.prog n_log_Log_Epochs d_log_Log_Epochs := fnOK mixed Tryz.func69 (by kernel_rfl) c_log_Log_Epochs
theorem k_log_Log_Collect_1 : FnOK Tryz.prog n_log_Log_Collect_1 d_log_Log_Collect_1 := fnOK mixed Tryz.func72 (by kernel_rfl) c_log_Log_Collect_1
theorem k_slices_ContainsFunc_73 : FnOK Tryz.prog n_slices_ContainsFunc_73 d_slices_ContainsFunc_73 := fnOK mixed Tryz.func73 (by kernel_rfl) c_slices_ContainsFunc_73
theorem k_ring_Ring_Get_74 : FnOK Tryz.prog n_ring_Ring_Get_74 d_ring_Ring_Get_74 := fnOK mixed Tryz.func74 (by kernel_rfl) c_ring_Ring_Get_74
theorem k_ring_Ring_at : FnOK Tryz.prog n_ring_Ring_at d_ring_Ring_at := fnOK mixed Tryz.func86 (by kernel_rfl) c_ring_Ring_at
theorem k_slices_IndexFunc_92 : FnOK Tryz.prog n_slices_IndexFunc_92 d_slices_IndexFunc_92 := fnOK mixed Tryz.func92 (by kernel_rfl) c_slices_IndexFunc_92
theorem k_ring_Ring_at_93 : FnOK Tryz.prog n_ring_Ring_at_93 d_ring_Ring_at_93 := fnOK mixed Tryz.func93 (by kernel_rfl) c_ring_Ring_at_93
theorem progOK : @ProgOK _ (siteRel Tryz.prog) Tryz.prog prog :=
  progOK_cons k_sibyllaw23_EngineNil (progOK_cons k_sibylref23_Rest (progOK_cons k_sibylref19_Right (progOK_cons k_engine_New (progOK_cons k_engine_Engine_Step (progOK_cons k_engine_Engine_Tasks (progOK_cons k_engine_Engine_Steps (progOK_cons k_engine_Engine_Round (progOK_cons k_engine_Engine_Ended (progOK_cons k_engine_Engine_Open (progOK_cons k_engine_Engine_Quiet (progOK_cons k_engine_Engine_Log (progOK_cons k_engine_Engine_Worker (progOK_cons k_engine_Engine_Merger (progOK_cons k_sibylref23_Spec_Config (progOK_cons k_sibyllaw23_awake (progOK_cons k_log_New (progOK_cons k_merger_New (progOK_cons k_slices_Clone (progOK_cons k_engine_user_step (progOK_cons k_worker_New (progOK_cons k_worker_Worker_Step (progOK_cons k_merger_Merger_Step (progOK_cons k_slices_Clone_26 (progOK_cons k_engine_user_done (progOK_cons k_log_Log_Tail (progOK_cons k_engine_Engine_Quiet_1 (progOK_cons k_engine_Engine_Quiet_2 (progOK_cons k_worker_Worker_Calm (progOK_cons k_log_Log_Low (progOK_cons k_merger_Merger_Calm (progOK_cons k_slices_ContainsFunc (progOK_cons k_slices_ContainsFunc_35 (progOK_cons k_log_Right (progOK_cons k_store_New (progOK_cons k_epoch_New (progOK_cons k_ring_New (progOK_cons k_ring_New_40 (progOK_cons k_log_Log_Config (progOK_cons k_queue_New (progOK_cons k_client_Client_Step (progOK_cons k_client_New (progOK_cons k_client_Client_Done (progOK_cons k_engine_Engine_end (progOK_cons k_shard_New (progOK_cons k_worker_Worker_Left (progOK_cons k_worker_Worker_look (progOK_cons k_merger_Merger_collect (progOK_cons k_client_Client_Stamp (progOK_cons k_client_Client_Answer (progOK_cons k_ring_Ring_Low (progOK_cons k_slices_IndexFunc (progOK_cons k_slices_IndexFunc_55 (progOK_cons k_client_Client_look (progOK_cons k_client_Client_end (progOK_cons k_shard_within (progOK_cons k_log_Log_Look (progOK_cons k_log_Log_Cursor (progOK_cons k_worker_Worker_pin (progOK_cons k_log_Log_Collect (progOK_cons k_merger_Merger_do (progOK_cons k_client_Client_room (progOK_cons k_ring_Ring_Get (progOK_cons k_log_Log_Epochs (progOK_cons k_log_Log_Collect_1 (progOK_cons k_slices_ContainsFunc_73 (progOK_cons k_ring_Ring_Get_74 (progOK_cons k_ring_Ring_at (progOK_cons k_slices_IndexFunc_92 (progOK_cons k_ring_Ring_at_93 (progOK_nil _))))))))))))))))))))))))))))))))))))))))))))))))))))))))))))))))))))))
theorem callOK : @CallOK _ (siteRel Tryz.prog) Tryz.prog C0 := calls_ok mixed progOK rfl
end Go.Proofs.YtfibhjillbichaaGreatDoor.bind
