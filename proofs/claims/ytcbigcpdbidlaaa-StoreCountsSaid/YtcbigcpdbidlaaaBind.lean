/- Each function of D's list is the program's function of that number: D's calls are the model's. No condition. -/
import Derived.Test.YtcbigcpdbidlaaaRows
import Derived.Test.YtcbigcpdbidlaaaP
import Derived.KernelRfl
namespace Go.Proofs.Ytcbigcpdbidlaaa.bind
open Go Dk Dk.A
theorem c_StoreFull : compFn Try.prog (drawOf Try.prog Try.f3.ntmps (plans [])) [[1, 5, 6, 7, 8]] false true Try.f3 = some d_StoreFull := by kernel_rfl
theorem c_StoreOwn : compFn Try.prog (drawOf Try.prog Try.f4.ntmps (plans [(21, [0, 1, 2, 3, 4, 5, 6, 7, 8, 9])])) [[1, 5, 7, 8, 9, 10], [1, 5, 7, 8, 9, 10, 17]] false true Try.f4 = some d_StoreOwn := by kernel_rfl
theorem c_StoreTurns : compFn Try.prog (drawOf Try.prog Try.f5.ntmps (plans [])) [[1, 5, 6, 7, 8], [1, 5, 6, 7, 8, 9, 11], [1, 5, 6, 7, 8, 18]] false true Try.f5 = some d_StoreTurns := by kernel_rfl
theorem c_StoreCounts : compFn Try.prog (drawOf Try.prog Try.f6.ntmps (plans [])) [[0, 3, 4, 5, 6, 7, 8, 9, 10]] false true Try.f6 = some d_StoreCounts := by kernel_rfl
theorem c_StorePlays : compFn Try.prog (drawOf Try.prog Try.f7.ntmps (plans [(10, [0, 1, 4, 5, 9, 2, 3, 6, 7, 8, 10]), (31, [0, 1, 3, 4, 2, 5, 6]), (35, [0, 1, 2, 3, 4, 5, 6, 7, 8, 9, 10, 12, 13, 11, 14, 15, 16, 17, 18, 20, 19, 21, 22, 23, 24, 25, 27, 26, 28, 29, 30])])) [[0, 1, 5, 7, 8, 9, 10]] false true Try.f7 = some d_StorePlays := by kernel_rfl
theorem c_StoreNil : compFn Try.prog (drawOf Try.prog Try.f8.ntmps (plans [])) [] false true Try.f8 = some d_StoreNil := by kernel_rfl
theorem c_awake : compFn Try.prog (drawOf Try.prog Try.f15.ntmps (plans [])) [] false true Try.f15 = some d_awake := by kernel_rfl
theorem c_rest : compFn Try.prog (drawOf Try.prog Try.f16.ntmps (plans [])) [] false true Try.f16 = some d_rest := by kernel_rfl
theorem c_New : compFn Try.prog (drawOf Try.prog Try.f17.ntmps (plans [])) [] false false Try.f17 = some d_New := by kernel_rfl
theorem c_Take : compFn Try.prog (drawOf Try.prog Try.f18.ntmps (plans [(10, [0, 1, 2, 3, 4, 5, 6, 7, 8, 9, 10, 11, 12])])) [[0, 3, 4, 6]] false false Try.f18 = some d_Take := by kernel_rfl
theorem c_Used : compFn Try.prog (drawOf Try.prog Try.f19.ntmps (plans [])) [] false true Try.f19 = some d_Used := by kernel_rfl
theorem c_Free : compFn Try.prog (drawOf Try.prog Try.f20.ntmps (plans [])) [] false false Try.f20 = some d_Free := by kernel_rfl
theorem c_Add : compFn Try.prog (drawOf Try.prog Try.f21.ntmps (plans [])) [] false false Try.f21 = some d_Add := by kernel_rfl
theorem c_Get : compFn Try.prog (drawOf Try.prog Try.f22.ntmps (plans [])) [] false true Try.f22 = some d_Get := by kernel_rfl
theorem c_Count : compFn Try.prog (drawOf Try.prog Try.f23.ntmps (plans [])) [] false true Try.f23 = some d_Count := by kernel_rfl
theorem c_Live : compFn Try.prog (drawOf Try.prog Try.f24.ntmps (plans [])) [] false true Try.f24 = some d_Live := by kernel_rfl
theorem c_rTake : compFn Try.prog (drawOf Try.prog Try.f25.ntmps (plans [(14, [0, 1, 2, 3, 4, 5, 6, 7, 8, 9, 10, 11, 12])])) [[0, 3, 4, 6], [0, 3, 4, 6, 7, 8, 9]] false false Try.f25 = some d_rTake := by kernel_rfl
theorem c_rFree : compFn Try.prog (drawOf Try.prog Try.f26.ntmps (plans [])) [] false false Try.f26 = some d_rFree := by kernel_rfl
theorem c_rAdd : compFn Try.prog (drawOf Try.prog Try.f27.ntmps (plans [(4, [0, 1, 2, 3, 4, 5, 6, 7, 8, 9, 10, 11, 12, 13, 14, 15, 16, 17])])) [] false false Try.f27 = some d_rAdd := by kernel_rfl
theorem c_rGet : compFn Try.prog (drawOf Try.prog Try.f28.ntmps (plans [])) [] false true Try.f28 = some d_rGet := by kernel_rfl
theorem c_rCount : compFn Try.prog (drawOf Try.prog Try.f29.ntmps (plans [])) [] false true Try.f29 = some d_rCount := by kernel_rfl
theorem c_rUsed : compFn Try.prog (drawOf Try.prog Try.f30.ntmps (plans [])) [[0, 1, 5, 6]] false true Try.f30 = some d_rUsed := by kernel_rfl
theorem c_with : compFn Try.prog (drawOf Try.prog Try.f47.ntmps (plans [(1, [0, 1, 2, 3, 4, 5, 6, 7, 8, 9, 10, 11, 12, 13, 14, 15, 16]), (3, [0, 1, 2, 3, 4, 5, 6, 7]), (4, [0, 1, 2, 3, 4, 5, 6, 7, 8, 9, 10, 11, 12, 13, 14, 15, 16, 17, 18])])) [] false false Try.f47 = some d_with := by kernel_rfl
theorem c_Free1 : compFn Try.prog (drawOf Try.prog Try.f48.ntmps (plans [])) [] false false Try.f48 = some d_Free1 := by kernel_rfl
theorem c_Add1 : compFn Try.prog (drawOf Try.prog Try.f49.ntmps (plans [(1, [0, 1, 2, 3, 4, 5, 6, 7, 8, 9, 10, 11, 12, 13, 14, 15, 16, 17, 18, 19, 20, 21, 22]), (3, [0, 1, 2, 3, 4, 5, 6, 7, 8])])) [] false false Try.f49 = some d_Add1 := by kernel_rfl
theorem c_Get1 : compFn Try.prog (drawOf Try.prog Try.f50.ntmps (plans [])) [] false false Try.f50 = some d_Get1 := by kernel_rfl
theorem c_Count1 : compFn Try.prog (drawOf Try.prog Try.f51.ntmps (plans [])) [] false false Try.f51 = some d_Count1 := by kernel_rfl
theorem c_rfind : compFn Try.prog (drawOf Try.prog Try.f52.ntmps (plans [(4, [0, 1, 2, 3, 4, 5, 6, 7, 8, 9, 10, 11, 12, 13, 14, 15, 16, 17, 18, 19, 20])])) [[0, 3, 5]] false true Try.f52 = some d_rfind := by kernel_rfl
theorem mixed : Try.prog.follows .mixedOrders = true := by kernel_rfl
theorem progOK : ProgOK Try.prog prog :=
  progOK_cons (fnOK mixed Try.func3 (by kernel_rfl) c_StoreFull) (progOK_cons (fnOK mixed Try.func4 (by kernel_rfl) c_StoreOwn) (progOK_cons (fnOK mixed Try.func5 (by kernel_rfl) c_StoreTurns) (progOK_cons (fnOK mixed Try.func6 (by kernel_rfl) c_StoreCounts) (progOK_cons (fnOK mixed Try.func7 (by kernel_rfl) c_StorePlays) (progOK_cons (fnOK mixed Try.func8 (by kernel_rfl) c_StoreNil) (progOK_cons (fnOK mixed Try.func15 (by kernel_rfl) c_awake) (progOK_cons (fnOK mixed Try.func16 (by kernel_rfl) c_rest) (progOK_cons (fnOK mixed Try.func17 (by kernel_rfl) c_New) (progOK_cons (fnOK mixed Try.func18 (by kernel_rfl) c_Take) (progOK_cons (fnOK mixed Try.func19 (by kernel_rfl) c_Used) (progOK_cons (fnOK mixed Try.func20 (by kernel_rfl) c_Free) (progOK_cons (fnOK mixed Try.func21 (by kernel_rfl) c_Add) (progOK_cons (fnOK mixed Try.func22 (by kernel_rfl) c_Get) (progOK_cons (fnOK mixed Try.func23 (by kernel_rfl) c_Count) (progOK_cons (fnOK mixed Try.func24 (by kernel_rfl) c_Live) (progOK_cons (fnOK mixed Try.func25 (by kernel_rfl) c_rTake) (progOK_cons (fnOK mixed Try.func26 (by kernel_rfl) c_rFree) (progOK_cons (fnOK mixed Try.func27 (by kernel_rfl) c_rAdd) (progOK_cons (fnOK mixed Try.func28 (by kernel_rfl) c_rGet) (progOK_cons (fnOK mixed Try.func29 (by kernel_rfl) c_rCount) (progOK_cons (fnOK mixed Try.func30 (by kernel_rfl) c_rUsed) (progOK_cons (fnOK mixed Try.func47 (by kernel_rfl) c_with) (progOK_cons (fnOK mixed Try.func48 (by kernel_rfl) c_Free1) (progOK_cons (fnOK mixed Try.func49 (by kernel_rfl) c_Add1) (progOK_cons (fnOK mixed Try.func50 (by kernel_rfl) c_Get1) (progOK_cons (fnOK mixed Try.func51 (by kernel_rfl) c_Count1) (progOK_cons (fnOK mixed Try.func52 (by kernel_rfl) c_rfind) (progOK_nil _))))))))))))))))))))))))))))
theorem callOK : CallOK Try.prog C0 := call_ok progOK (noExt_ok _) noExt_mono
end Go.Proofs.Ytcbigcpdbidlaaa.bind
