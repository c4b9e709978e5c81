/- Each function of D's list is the program's function of that number: D's calls are the model's. No condition. -/
import Derived.Test.YtcbigcpdbidlaaaRows
import Derived.Test.YtcbigcpdbidlaaaP
import Derived.KernelRfl
namespace Go.Proofs.Ytcbigcpdbidlaaa.bind
open Go Dk Dk.Q
theorem c_qawake : compFn Try.prog (drawOf Try.prog Try.f31.ntmps (plans [])) [] false true Try.f31 = some { d_qawake with sha := false } := by kernel_rfl
theorem c_qNew : compFn Try.prog (drawOf Try.prog Try.f32.ntmps (plans [])) [] false false Try.f32 = some { d_qNew with sha := false } := by kernel_rfl
theorem c_qDo : compFn Try.prog (drawOf Try.prog Try.f33.ntmps (plans [(5, [0, 1, 2, 3, 4, 5, 6, 7, 8, 9, 10]), (10, [0, 1, 2, 3, 4, 5, 6, 7]), (19, [0, 1, 2, 3, 4, 5, 6])])) [[0, 6, 8, 11, 57, 58, 59]] false false Try.f33 = some { d_qDo with sha := false } := by kernel_rfl
theorem c_config : compFn Try.prog (drawOf Try.prog Try.f34.ntmps (plans [(1, [0, 1, 4, 5, 2, 3, 6, 7, 8, 9])])) [] false true Try.f34 = some { d_config with sha := false } := by kernel_rfl
theorem c_command : compFn Try.prog (drawOf Try.prog Try.f35.ntmps (plans [(24, [0, 1, 2, 3, 4, 5, 6, 7, 8, 9, 10, 11, 12, 13, 14, 15, 16]), (27, [0, 1, 2, 3, 4, 5, 6, 7, 8, 9, 10, 11, 13, 12, 14, 15, 16, 17]), (31, [0, 1, 2, 3, 4, 5, 6, 7, 8, 9, 10, 11, 12, 13, 14, 15, 16, 17])])) [[1, 2, 4, 7, 8], [1, 2, 4, 7, 8, 9, 10, 11], [1, 2, 4, 7, 13]] true true Try.f35 = some { d_command with sha := false } := by kernel_rfl
theorem c_qLive : compFn Try.prog (drawOf Try.prog Try.f38.ntmps (plans [])) [] false true Try.f38 = some { d_qLive with sha := false } := by kernel_rfl
theorem c_qWaiting : compFn Try.prog (drawOf Try.prog Try.f39.ntmps (plans [])) [] false true Try.f39 = some { d_qWaiting with sha := false } := by kernel_rfl
theorem c_qLost : compFn Try.prog (drawOf Try.prog Try.f40.ntmps (plans [])) [] false true Try.f40 = some { d_qLost with sha := false } := by kernel_rfl
theorem c_SameAnswer : compFn Try.prog (drawOf Try.prog Try.f41.ntmps (plans [])) [] false true Try.f41 = some { d_SameAnswer with sha := false } := by kernel_rfl
theorem c_SameRefs : compFn Try.prog (drawOf Try.prog Try.f43.ntmps (plans [(6, [0, 1, 2, 3, 4, 6, 7, 8, 9, 10, 5, 11, 12])])) [[0, 1, 5]] false true Try.f43 = some { d_SameRefs with sha := false } := by kernel_rfl
theorem c_rHeld : compFn Try.prog (drawOf Try.prog Try.f44.ntmps (plans [])) [[0, 3, 4], [0, 3, 4, 5]] false true Try.f44 = some { d_rHeld with sha := false } := by kernel_rfl
theorem c_rWaiting : compFn Try.prog (drawOf Try.prog Try.f45.ntmps (plans [])) [] false true Try.f45 = some { d_rWaiting with sha := false } := by kernel_rfl
theorem c_rLost : compFn Try.prog (drawOf Try.prog Try.f46.ntmps (plans [])) [] false true Try.f46 = some { d_rLost with sha := false } := by kernel_rfl
theorem c_hit : compFn Try.prog (drawOf Try.prog Try.f53.ntmps (plans [])) [] true true Try.f53 = some { d_hit with sha := false } := by kernel_rfl
theorem c_publish : compFn Try.prog (drawOf Try.prog Try.f55.ntmps (plans [(11, [0, 1, 2, 3, 4, 5, 6, 7]), (15, [0, 1, 2, 3, 4, 5, 6, 7, 8, 9, 10, 11]), (12, [0, 1, 2, 3, 4, 5, 6, 7, 8, 9, 10, 11])])) [[2, 3, 4, 6, 7, 8, 9, 23, 24, 25], [3, 8], [3, 4, 7, 89, 90, 91], [3, 4, 7, 89, 90, 91, 96, 97, 98]] false false Try.f55 = some { d_publish with sha := false } := by kernel_rfl
theorem c_poll : compFn Try.prog (drawOf Try.prog Try.f56.ntmps (plans [(1, [0, 1, 2, 3, 4, 5, 6, 7]), (10, [0, 1, 2, 3, 4, 5, 6, 7, 8])])) [[4, 6, 7, 8, 9, 55, 56, 57]] false false Try.f56 = some { d_poll with sha := false } := by kernel_rfl
theorem c_qrest : compFn Try.prog (drawOf Try.prog Try.f57.ntmps (plans [])) [] false true Try.f57 = some { d_qrest with sha := false } := by kernel_rfl
theorem c_qfind : compFn Try.prog (drawOf Try.prog Try.f58.ntmps (plans [])) [[0, 1, 5]] false true Try.f58 = some { d_qfind with sha := false } := by kernel_rfl
theorem c_rpoll : compFn Try.prog (drawOf Try.prog Try.f60.ntmps (plans [(14, [0, 1, 2, 3, 4, 5, 6, 7, 8, 9, 10, 11, 12, 13]), (15, [0, 1, 2, 3, 4, 5, 6, 7, 8, 9, 10]), (16, [0, 1, 2, 3, 4, 5, 6, 7, 8, 9, 10, 11, 12, 13])])) [[0, 4, 5, 6, 7, 8, 9]] false false Try.f60 = some { d_rpoll with sha := false } := by kernel_rfl
theorem c_publish1 : compFn Try.prog (drawOf Try.prog Try.f62.ntmps (plans [])) [] false false Try.f62 = some { d_publish1 with sha := false } := by kernel_rfl
theorem c_Merge : compFn Try.prog (drawOf Try.prog Try.f63.ntmps (plans [])) [] false false Try.f63 = some { d_Merge with sha := false } := by kernel_rfl
theorem c_publish2 : compFn Try.prog (drawOf Try.prog Try.f64.ntmps (plans [])) [] false true Try.f64 = some { d_publish2 with sha := false } := by kernel_rfl
theorem c_Merge1 : compFn Try.prog (drawOf Try.prog Try.f67.ntmps (plans [(0, [0, 2, 4, 1, 3, 5]), (5, [0, 1, 2, 3, 4, 5, 6, 7, 8, 9, 10])])) [[0, 4, 5]] false false Try.f67 = some { d_Merge1 with sha := false } := by kernel_rfl
theorem c_Clone : compFn Try.prog (drawOf Try.prog Try.f68.ntmps (plans [])) [] false false Try.f68 = some { d_Clone with sha := false } := by kernel_rfl
theorem c_best : compFn Try.prog (drawOf Try.prog Try.f69.ntmps (plans [(5, [0, 1, 2, 3, 4, 5, 6, 7, 8, 9, 10, 11, 12, 13, 14, 15, 16, 17, 18, 19, 20, 21])])) [[1, 3, 7, 8, 9]] false true Try.f69 = some { d_best with sha := false } := by kernel_rfl
theorem c_Same : compFn Try.prog (drawOf Try.prog Try.f54.ntmps (plans [(6, [0, 1, 2, 3, 4, 5, 6, 7, 8, 9])])) [[0, 1, 5]] false true Try.f54 = some { d_Same with sha := false } := by kernel_rfl
theorem c_Count6 : compFn Try.prog (drawOf Try.prog Try.f37.ntmps (plans [(5, [0, 1, 2, 3, 4, 5])])) [[0, 3, 5, 6]] false true Try.f37 = some { d_Count6 with sha := false } := by kernel_rfl
theorem c_qHeld : compHeld Try.prog (drawOf Try.prog Try.f36.ntmps fun _ => none) Try.f36 = some d_qHeld := by kernel_rfl
theorem c_Compare6 : compFn Try.prog (drawOf Try.prog Try.f61.ntmps (plans [(4, [0, 1, 2, 3, 4, 5, 6, 7, 8, 9])])) [[0, 1, 5]] false true Try.f61 = some { d_Compare6 with sha := false } := by kernel_rfl
theorem c_row6 : compFn Try.prog (drawOf Try.prog Try.f66.ntmps (plans [(4, [0, 1, 2, 3, 4, 5, 6, 7, 8]), (6, [0, 1, 2, 3, 4, 5, 6, 7, 8])])) [[0, 1, 5]] false true Try.f66 = some { d_row6 with sha := false } := by kernel_rfl
theorem c_QueueDoes : compFn Try.prog (drawOf Try.prog Try.f13.ntmps (plans [(12, [0, 1, 2, 3, 4, 5, 6, 7, 9, 8, 10, 11, 12, 13, 14, 16, 17, 18, 19, 20, 15, 21, 22])])) [[1, 5, 6, 7, 8], [1, 5, 6, 7, 8, 16]] false true Try.f13 = some { d_QueueDoes with sha := false } := by kernel_rfl
theorem c_rDo : compFn Try.prog (drawOf Try.prog Try.f42.ntmps (plans [(5, [0, 1, 2, 3, 4, 5, 6, 7, 8, 9, 10]), (15, [0, 1, 2, 3, 4, 5, 6, 7, 8, 9, 10, 11, 12, 13, 14, 15, 16])])) [[0, 8, 9, 10, 11]] false false Try.f42 = some { d_rDo with sha := false } := by kernel_rfl
theorem c_rpublish : compFn Try.prog (drawOf Try.prog Try.f59.ntmps (plans [(8, [0, 1, 2, 3, 4, 5, 6, 7, 8, 9, 10]), (9, [0, 1, 2, 3, 4, 5, 6, 7, 8, 9, 10, 11, 12, 13, 14]), (11, [0, 1, 2, 3, 4, 5, 6, 7, 8, 9, 10]), (12, [0, 1, 2, 3, 4, 5, 6, 7, 8, 9, 10, 11, 12, 13, 14, 15, 16, 17, 18, 19, 20, 21, 22])])) [[0, 3, 6, 8, 9, 10, 11], [0, 3, 6, 8, 9, 13], [0, 3, 6, 8, 9, 13, 14]] false false Try.f59 = some { d_rpublish with sha := false } := by kernel_rfl
theorem c_merged : compFn Try.prog (drawOf Try.prog Try.f65.ntmps (plans [(10, [0, 1, 2, 3, 4, 5, 6, 7, 8, 9, 10, 11, 12]), (13, [0, 1, 2, 3, 4, 5, 7, 6, 8, 9])])) [[0, 3, 4], [0, 3, 4, 5], [0, 3, 4, 5, 6, 7]] true true Try.f65 = some { d_merged with sha := false } := by kernel_rfl
theorem mixed : Try.prog.follows .mixedOrders = true := by kernel_rfl
theorem k_qawake : FnOK Try.prog n_qawake d_qawake := fnOK mixed Try.func31 (by kernel_rfl) c_qawake
theorem k_qNew : FnOK Try.prog n_qNew d_qNew := fnOK mixed Try.func32 (by kernel_rfl) c_qNew
theorem k_qDo : FnOK Try.prog n_qDo d_qDo := fnOK mixed Try.func33 (by kernel_rfl) c_qDo
theorem k_config : FnOK Try.prog n_config d_config := fnOK mixed Try.func34 (by kernel_rfl) c_config
theorem k_command : FnOK Try.prog n_command d_command := fnOK mixed Try.func35 (by kernel_rfl) c_command
theorem k_qLive : FnOK Try.prog n_qLive d_qLive := fnOK mixed Try.func38 (by kernel_rfl) c_qLive
theorem k_qWaiting : FnOK Try.prog n_qWaiting d_qWaiting := fnOK mixed Try.func39 (by kernel_rfl) c_qWaiting
theorem k_qLost : FnOK Try.prog n_qLost d_qLost := fnOK mixed Try.func40 (by kernel_rfl) c_qLost
theorem k_SameAnswer : FnOK Try.prog n_SameAnswer d_SameAnswer := fnOK mixed Try.func41 (by kernel_rfl) c_SameAnswer
theorem k_SameRefs : FnOK Try.prog n_SameRefs d_SameRefs := fnOK mixed Try.func43 (by kernel_rfl) c_SameRefs
theorem k_rHeld : FnOK Try.prog n_rHeld d_rHeld := fnOK mixed Try.func44 (by kernel_rfl) c_rHeld
theorem k_rWaiting : FnOK Try.prog n_rWaiting d_rWaiting := fnOK mixed Try.func45 (by kernel_rfl) c_rWaiting
theorem k_rLost : FnOK Try.prog n_rLost d_rLost := fnOK mixed Try.func46 (by kernel_rfl) c_rLost
theorem k_hit : FnOK Try.prog n_hit d_hit := fnOK mixed Try.func53 (by kernel_rfl) c_hit
theorem k_publish : FnOK Try.prog n_publish d_publish := fnOK mixed Try.func55 (by kernel_rfl) c_publish
theorem k_poll : FnOK Try.prog n_poll d_poll := fnOK mixed Try.func56 (by kernel_rfl) c_poll
theorem k_qrest : FnOK Try.prog n_qrest d_qrest := fnOK mixed Try.func57 (by kernel_rfl) c_qrest
theorem k_qfind : FnOK Try.prog n_qfind d_qfind := fnOK mixed Try.func58 (by kernel_rfl) c_qfind
theorem k_rpoll : FnOK Try.prog n_rpoll d_rpoll := fnOK mixed Try.func60 (by kernel_rfl) c_rpoll
theorem k_publish1 : FnOK Try.prog n_publish1 d_publish1 := fnOK mixed Try.func62 (by kernel_rfl) c_publish1
theorem k_Merge : FnOK Try.prog n_Merge d_Merge := fnOK mixed Try.func63 (by kernel_rfl) c_Merge
theorem k_publish2 : FnOK Try.prog n_publish2 d_publish2 := fnOK mixed Try.func64 (by kernel_rfl) c_publish2
theorem k_Merge1 : FnOK Try.prog n_Merge1 d_Merge1 := fnOK mixed Try.func67 (by kernel_rfl) c_Merge1
theorem k_Clone : FnOK Try.prog n_Clone d_Clone := fnOK mixed Try.func68 (by kernel_rfl) c_Clone
theorem k_best : FnOK Try.prog n_best d_best := fnOK mixed Try.func69 (by kernel_rfl) c_best
theorem k_Same : FnOK Try.prog n_Same d_Same := fnOK mixed Try.func54 (by kernel_rfl) c_Same
theorem k_Count6 : FnOK Try.prog n_Count6 d_Count6 := fnOK mixed Try.func37 (by kernel_rfl) c_Count6
theorem k_qHeld : FnOK Try.prog n_qHeld d_qHeld := heldOK mixed Try.func36 (by kernel_rfl) c_qHeld rfl
theorem k_Compare6 : FnOK Try.prog n_Compare6 d_Compare6 := fnOK mixed Try.func61 (by kernel_rfl) c_Compare6
theorem k_row6 : FnOK Try.prog n_row6 d_row6 := fnOK mixed Try.func66 (by kernel_rfl) c_row6
theorem k_QueueDoes : FnOK Try.prog n_QueueDoes d_QueueDoes := fnOK mixed Try.func13 (by kernel_rfl) c_QueueDoes
theorem k_rDo : FnOK Try.prog n_rDo d_rDo := fnOK mixed Try.func42 (by kernel_rfl) c_rDo
theorem k_rpublish : FnOK Try.prog n_rpublish d_rpublish := fnOK mixed Try.func59 (by kernel_rfl) c_rpublish
theorem k_merged : FnOK Try.prog n_merged d_merged := fnOK mixed Try.func65 (by kernel_rfl) c_merged
theorem progOK : @ProgOK _ (siteRel Try.prog) Try.prog prog :=
  progOK_cons k_qawake (progOK_cons k_qNew (progOK_cons k_qDo (progOK_cons k_config (progOK_cons k_command (progOK_cons k_qLive (progOK_cons k_qWaiting (progOK_cons k_qLost (progOK_cons k_SameAnswer (progOK_cons k_SameRefs (progOK_cons k_rHeld (progOK_cons k_rWaiting (progOK_cons k_rLost (progOK_cons k_hit (progOK_cons k_publish (progOK_cons k_poll (progOK_cons k_qrest (progOK_cons k_qfind (progOK_cons k_rpoll (progOK_cons k_publish1 (progOK_cons k_Merge (progOK_cons k_publish2 (progOK_cons k_Merge1 (progOK_cons k_Clone (progOK_cons k_best (progOK_cons k_Same (progOK_cons k_Count6 (progOK_cons k_qHeld (progOK_cons k_Compare6 (progOK_cons k_row6 (progOK_cons k_QueueDoes (progOK_cons k_rDo (progOK_cons k_rpublish (progOK_cons k_merged (progOK_nil _))))))))))))))))))))))))))))))))))
theorem callOK : @CallOK _ (siteRel Try.prog) Try.prog C0 := calls_ok mixed progOK rfl
end Go.Proofs.Ytcbigcpdbidlaaa.bind
