/- D's code of the functions, printed by a program of mine (DPrint). -/
import Derived.Test.YtfibhjillbichaaGreatDoorGk5
set_option linter.unusedVariables false
set_option linter.unusedSimpArgs false
set_option linter.unusedSectionVars false
namespace Dk.N
open Go Dk
abbrev n_sibyllaw23_EngineNil : Nat := 3
abbrev n_sibylref23_Rest : Nat := 4
abbrev n_sibylref19_Right : Nat := 5
abbrev n_engine_New : Nat := 6
abbrev n_engine_Engine_Step : Nat := 7
abbrev n_engine_Engine_Tasks : Nat := 8
abbrev n_engine_Engine_Steps : Nat := 9
abbrev n_engine_Engine_Round : Nat := 10
abbrev n_engine_Engine_Ended : Nat := 11
abbrev n_engine_Engine_Open : Nat := 12
abbrev n_engine_Engine_Quiet : Nat := 13
abbrev n_engine_Engine_Log : Nat := 14
abbrev n_engine_Engine_Worker : Nat := 15
abbrev n_engine_Engine_Merger : Nat := 16
abbrev n_sibylref23_Spec_Config : Nat := 17
abbrev n_sibyllaw23_awake : Nat := 18
abbrev n_log_New : Nat := 19
abbrev n_merger_New : Nat := 20
abbrev n_slices_Clone : Nat := 21
abbrev n_engine_user_step : Nat := 22
abbrev n_worker_New : Nat := 23
abbrev n_worker_Worker_Step : Nat := 24
abbrev n_merger_Merger_Step : Nat := 25
abbrev n_slices_Clone_26 : Nat := 26
abbrev n_engine_user_done : Nat := 27
abbrev n_log_Log_Tail : Nat := 28
abbrev n_engine_Engine_Quiet_1 : Nat := 29
abbrev n_engine_Engine_Quiet_2 : Nat := 30
abbrev n_worker_Worker_Calm : Nat := 31
abbrev n_log_Log_Low : Nat := 32
abbrev n_merger_Merger_Calm : Nat := 33
abbrev n_slices_ContainsFunc : Nat := 34
abbrev n_slices_ContainsFunc_35 : Nat := 35
abbrev n_log_Right : Nat := 36
abbrev n_store_New : Nat := 37
abbrev n_epoch_New : Nat := 38
abbrev n_ring_New : Nat := 39
abbrev n_ring_New_40 : Nat := 40
abbrev n_log_Log_Config : Nat := 41
abbrev n_queue_New : Nat := 42
abbrev n_client_Client_Step : Nat := 43
abbrev n_client_New : Nat := 44
abbrev n_client_Client_Done : Nat := 45
abbrev n_engine_Engine_end : Nat := 46
abbrev n_shard_New : Nat := 47
abbrev n_worker_Worker_Left : Nat := 48
abbrev n_worker_Worker_look : Nat := 49
abbrev n_merger_Merger_collect : Nat := 50
abbrev n_client_Client_Stamp : Nat := 51
abbrev n_client_Client_Answer : Nat := 52
abbrev n_ring_Ring_Low : Nat := 53
abbrev n_slices_IndexFunc : Nat := 54
abbrev n_slices_IndexFunc_55 : Nat := 55
abbrev n_client_Client_look : Nat := 56
abbrev n_client_Client_end : Nat := 58
abbrev n_shard_within : Nat := 59
abbrev n_log_Log_Look : Nat := 60
abbrev n_log_Log_Cursor : Nat := 61
abbrev n_worker_Worker_pin : Nat := 62
abbrev n_log_Log_Collect : Nat := 63
abbrev n_merger_Merger_do : Nat := 64
abbrev n_client_Client_room : Nat := 65
abbrev n_ring_Ring_Get : Nat := 68
abbrev n_log_Log_Epochs : Nat := 69
abbrev n_log_Log_Collect_1 : Nat := 72
abbrev n_slices_ContainsFunc_73 : Nat := 73
abbrev n_ring_Ring_Get_74 : Nat := 74
abbrev n_ring_Ring_at : Nat := 86
abbrev n_slices_IndexFunc_92 : Nat := 92
abbrev n_ring_Ring_at_93 : Nat := 93
@[reducible] instance globs : Globs := ⟨fun _ => none⟩
/- sibyl/sibyllaw23.EngineNil -/
def d_sibyllaw23_EngineNil : DFn := ⟨3,
 .seq (.ops [S 3 (.box true 7 (.t 0)),
   S 6 (.mv (xB false))])
 (.seq (.ops [S 7 (.mv (.v .nilp))])
 (.seq (.ops [S 13 (.mv (.t 1)),
   S 14 (.call n_sibylref23_Rest [(.t 13), (xI 13)]),
   S 8 (.mv (.t 14))])
 (.seq (.ops [S 15 (.ld true 7 (.t 3)),
   S 16 (.call n_sibylref19_Right [(.t 15)]),
   S 9 (.mv (.t 16))])
 (.seq (.ops [S 17 (.ld true 7 (.t 3)),
   S 18 (.mv (.t 8)),
   S 19 (.mks 1 false 24 [(.full [])] (.t 18) (.t 18)),
   S 20 (.call n_engine_New [(.t 17), (.t 19)]),
   S 10 (.mv (.t 20))])
 (.seq (.ops [S 21 (.mv (.t 7)),
   S 22 (.mv (.t 2)),
   S 23 (.call n_engine_Engine_Step [(.t 21), (.t 22)]),
   S 24 (.un .not (.t 23)),
   S 25 (.mv (.t 24)),
   ⟨(some 26), .mv (.t 7), (some (25, true)), []⟩,
   ⟨(some 27), .call n_engine_Engine_Tasks [(.t 26)], (some (25, true)), []⟩,
   ⟨(some 28), .mv (.t 7), (some (25, true)), []⟩,
   ⟨(some 29), .call n_engine_Engine_Steps [(.t 28)], (some (25, true)), []⟩,
   ⟨(some 30), .bin .add .none (.t 27) (.t 29), (some (25, true)), []⟩,
   ⟨(some 31), .mv (.t 7), (some (25, true)), []⟩,
   ⟨(some 32), .call n_engine_Engine_Round [(.t 31)], (some (25, true)), []⟩,
   ⟨(some 33), .bin .add .none (.t 30) (.t 32), (some (25, true)), []⟩,
   ⟨(some 34), .bin .eql .none (.t 33) (xI 0), (some (25, true)), []⟩,
   S 35 (.pick (.t 25) (.t 34) (xB false)),
   S 36 (.mv (.t 35)),
   ⟨(some 37), .mv (.t 7), (some (36, true)), []⟩,
   ⟨(some 38), .call n_engine_Engine_Ended [(.t 37)], (some (36, true)), []⟩,
   ⟨(some 39), .len 0 (.t 38), (some (36, true)), []⟩,
   ⟨(some 40), .mv (.t 7), (some (36, true)), []⟩,
   ⟨(some 41), .call n_engine_Engine_Open [(.t 40)], (some (36, true)), []⟩,
   ⟨(some 42), .len 0 (.t 41), (some (36, true)), []⟩,
   ⟨(some 43), .bin .add .none (.t 39) (.t 42), (some (36, true)), []⟩,
   ⟨(some 44), .bin .eql .none (.t 43) (xI 0), (some (36, true)), []⟩,
   S 45 (.pick (.t 36) (.t 44) (xB false)),
   S 46 (.mv (.t 45)),
   ⟨(some 47), .mv (.t 7), (some (46, true)), []⟩,
   ⟨(some 48), .call n_engine_Engine_Quiet [(.t 47)], (some (46, true)), []⟩,
   S 49 (.pick (.t 46) (.t 48) (xB false)),
   S 50 (.mv (.t 49)),
   ⟨(some 51), .mv (.t 7), (some (50, true)), []⟩,
   ⟨(some 52), .call n_engine_Engine_Log [(.t 51)], (some (50, true)), []⟩,
   ⟨(some 53), .bin .eql .ptr (.t 52) (.v .nilp), (some (50, true)), []⟩,
   S 54 (.pick (.t 50) (.t 53) (xB false)),
   S 55 (.mv (.t 54)),
   ⟨(some 56), .mv (.t 7), (some (55, true)), []⟩,
   ⟨(some 57), .mv (.t 2), (some (55, true)), []⟩,
   ⟨(some 58), .call n_engine_Engine_Worker [(.t 56), (.t 57)], (some (55, true)), []⟩,
   ⟨(some 59), .bin .eql .ptr (.t 58) (.v .nilp), (some (55, true)), []⟩,
   S 60 (.pick (.t 55) (.t 59) (xB false)),
   S 61 (.mv (.t 60)),
   ⟨(some 62), .mv (.t 7), (some (61, true)), []⟩,
   ⟨(some 63), .call n_engine_Engine_Merger [(.t 62)], (some (61, true)), []⟩,
   ⟨(some 64), .bin .eql .ptr (.t 63) (.v .nilp), (some (61, true)), []⟩,
   S 65 (.pick (.t 61) (.t 64) (xB false)),
   S 11 (.mv (.t 65))])
 (.seq (.ops [S 66 (.build [(eI 0), (eI 0), (eI 0), (eI 0), (eI 0), (eI 0), (eI 0), (.full []), (.full [])] []),
   S 67 (.call n_sibylref23_Spec_Config [(.t 66)]),
   S 68 (.call n_engine_New [(.t 67), (.v (.full []))]),
   S 12 (.mv (.t 68))])
 (.seq (.ops [S 69 (.call n_sibyllaw23_awake []),
   S 70 (.mv (.t 69)),
   ⟨(some 71), .mv (.t 11), (some (70, true)), []⟩,
   S 72 (.pick (.t 70) (.t 71) (xB false)),
   S 73 (.mv (.t 72)),
   ⟨(some 74), .mv (.t 10), (some (73, true)), []⟩,
   ⟨(some 75), .bin .neq .ptr (.t 74) (.v .nilp), (some (73, true)), []⟩,
   ⟨(some 76), .mv (.t 9), (some (73, true)), []⟩,
   ⟨(some 77), .mv (.t 76), (some (73, true)), []⟩,
   ⟨(some 78), .mv (.t 8), (some (77, true)), []⟩,
   ⟨(some 79), .bin .leq .none (.t 78) (xI 8), (some (77, true)), []⟩,
   ⟨(some 80), .pick (.t 77) (.t 79) (xB false), (some (73, true)), []⟩,
   ⟨(some 81), .bin .eql .bool (.t 75) (.t 80), (some (73, true)), []⟩,
   S 82 (.pick (.t 73) (.t 81) (xB false)),
   S 83 (.mv (.t 82)),
   ⟨(some 84), .mv (.t 12), (some (83, true)), []⟩,
   ⟨(some 85), .mv (.t 2), (some (83, true)), []⟩,
   ⟨(some 86), .call n_engine_Engine_Worker [(.t 84), (.t 85)], (some (83, true)), []⟩,
   ⟨(some 87), .bin .neq .ptr (.t 86) (.v .nilp), (some (83, true)), []⟩,
   ⟨(some 88), .mv (.t 2), (some (83, true)), []⟩,
   ⟨(some 89), .bin .eql .none (.t 88) (xI 0), (some (83, true)), []⟩,
   ⟨(some 90), .bin .eql .bool (.t 87) (.t 89), (some (83, true)), []⟩,
   S 91 (.pick (.t 83) (.t 90) (xB false)),
   S 6 (.mv (.t 91))])
 (.ret)))))))),
 [.tmp 6], false, true, false⟩
/- sibyl/sibylref23.Rest -/
def d_sibylref23_Rest : DFn := ⟨2,
 .seq (.ops [S 4 (.mv (xI 0))])
 (.seq (.ops [S 5 (.mv (.t 0)),
   S 6 (.mv (.t 1)),
   S 7 (.bin .rem .none (.t 5) (.t 6)),
   S 8 (.mv (.t 1)),
   S 9 (.bin .add .none (.t 7) (.t 8)),
   S 10 (.mv (.t 1)),
   S 11 (.bin .rem .none (.t 9) (.t 10)),
   S 4 (.mv (.t 11))])
 (.ret)),
 [.tmp 4], false, true, false⟩
/- sibyl/sibylref19.Right -/
def d_sibylref19_Right : DFn := ⟨1,
 .seq (.ops [S 1 (.box true 7 (.t 0)),
   S 2 (.mv (xB false))])
 (.seq (.ops [S 5 (.fld 1 (.t 1)),
   S 6 (.ld false 1 (.t 5)),
   S 7 (.fld 2 (.t 1)),
   S 8 (.ld false 1 (.t 7)),
   S 9 (.fld 3 (.t 1)),
   S 10 (.ld false 1 (.t 9)),
   S 11 (.fld 4 (.t 1)),
   S 12 (.ld false 1 (.t 11)),
   S 13 (.fld 5 (.t 1)),
   S 14 (.ld false 1 (.t 13)),
   S 15 (.build [(eI 0), (eI 0), (eI 0), (eI 0), (eI 0)] [(0, 1, (.t 6)), (1, 1, (.t 8)), (2, 1, (.t 10)), (3, 1, (.t 12)), (4, 1, (.t 14))]),
   S 3 (.new true [(eI 0), (eI 0), (eI 0), (eI 0), (eI 0)]),
   E (.st 5 (.t 3) (.t 15))])
 (.seq (.seq (.ops [S 4 (.mv (xI 0))])
 (.block 0 (.loop [1, 3, 4] (.seq (.seq (.ops [S 16 (.mv (.t 4)),
     S 17 (.bin .lss .none (.t 16) (xI 5))])
   (.cond (.t 17)
    (.skip)
    (.exit 0)))
   (.seq (.block 1 (.seq (.ops [S 20 (.mv (.t 4)),
      S 21 (.ixp 5 1 (.t 3) (.t 20)),
      S 22 (.ld false 1 (.t 21)),
      S 23 (.bin .lss .none (.t 22) (xI 1)),
      S 24 (.mv (.t 23)),
      ⟨(some 25), .mv (.t 4), (some (24, false)), []⟩,
      ⟨(some 26), .ixp 5 1 (.t 3) (.t 25), (some (24, false)), []⟩,
      ⟨(some 27), .ld false 1 (.t 26), (some (24, false)), []⟩,
      ⟨(some 28), .bin .gtr .none (.t 27) (xI 4096), (some (24, false)), []⟩,
      S 29 (.pick (.t 24) (xB true) (.t 28))])
    (.cond (.t 29)
     (.seq (.ops [S 2 (.mv (xB false))])
     (.ret))
     (.skip))))
   (.ops [S 18 (.mv (.t 4)),
     S 19 (.bin .add .none (.t 18) (xI 1)),
     S 4 (.mv (.t 19))]))))))
 (.seq (.ops [S 30 (.fld 0 (.t 1)),
   S 31 (.ld false 1 (.t 30)),
   S 32 (.bin .geq .none (.t 31) (xI 1)),
   S 33 (.mv (.t 32)),
   ⟨(some 34), .fld 0 (.t 1), (some (33, true)), []⟩,
   ⟨(some 35), .ld false 1 (.t 34), (some (33, true)), []⟩,
   ⟨(some 36), .bin .leq .none (.t 35) (xI 15), (some (33, true)), []⟩,
   S 37 (.pick (.t 33) (.t 36) (xB false)),
   S 38 (.mv (.t 37)),
   ⟨(some 39), .fld 6 (.t 1), (some (38, true)), []⟩,
   ⟨(some 40), .ld false 1 (.t 39), (some (38, true)), []⟩,
   ⟨(some 41), .bin .geq .none (.t 40) (xI 1), (some (38, true)), []⟩,
   S 42 (.pick (.t 38) (.t 41) (xB false)),
   S 43 (.mv (.t 42)),
   ⟨(some 44), .fld 6 (.t 1), (some (43, true)), []⟩,
   ⟨(some 45), .ld false 1 (.t 44), (some (43, true)), []⟩,
   ⟨(some 46), .bin .leq .none (.t 45) (xI 1099511627776), (some (43, true)), []⟩,
   S 47 (.pick (.t 43) (.t 46) (xB false)),
   S 2 (.mv (.t 47))])
 (.ret)))),
 [.tmp 2], false, true, false⟩
/- sibyl/engine.New -/
def d_engine_New : DFn := ⟨2,
 .seq (.ops [S 2 (.box true 7 (.t 0)),
   S 4 (.mv (.v .nilp))])
 (.seq (.ops [S 12 (.ld true 7 (.t 2)),
   S 13 (.call n_log_New [(.t 12)]),
   S 5 (.mv (.t 13))])
 (.seq (.seq (.ops [S 14 (.mv (.t 5)),
   S 15 (.bin .eql .ptr (.t 14) (.v .nilp)),
   S 16 (.mv (.t 15)),
   ⟨(some 17), .mv (.t 1), (some (16, false)), []⟩,
   ⟨(some 18), .len 0 (.t 17), (some (16, false)), []⟩,
   ⟨(some 19), .bin .gtr .none (.t 18) (xI 8), (some (16, false)), []⟩,
   S 20 (.pick (.t 16) (xB true) (.t 19))])
 (.cond (.t 20)
  (.seq (.ops [S 4 (.mv (.v .nilp))])
  (.ret))
  (.skip)))
 (.seq (.ops [S 21 (.mv (.t 5)),
   S 22 (.mv (.t 5)),
   S 23 (.call n_merger_New [(.t 22)]),
   S 24 (.build [.nilp, (.full []), (.full []), .nilp, (.full []), (eI 0), (.full [])] [(0, 1, (.t 21)), (3, 1, (.t 23))]),
   S 25 (.box true 7 (.t 24)),
   S 6 (.mv (.t 25))])
 (.seq (.seq (.ops [S 26 (.mv (.t 1)),
   S 27 (.len 0 (.t 26)),
   S 28 (.mv (xI 0))])
 (.block 0 (.loop [2, 5, 6, 26, 27, 28] (.seq (.ops [S 29 (.bin .lss .none (.t 28) (.t 27))])
   (.seq (.cond (.t 29)
    (.skip)
    (.exit 0))
   (.seq (.block 1 (.seq (.ops [S 30 (.mv (.t 28)),
      S 31 (.ixa 1 (.t 26) (.t 28)),
      S 32 (.ld false 1 (.t 31)),
      S 7 (.mv (.t 30)),
      S 8 (.mv (.t 32))])
    (.seq (.ops [S 33 (.mv (.t 6)),
      S 34 (.mv (.t 7)),
      S 35 (.mv (.t 8)),
      S 36 (.call n_slices_Clone [(.t 35)]),
      S 37 (.build [.nilp, (eI 0), (.full []), (eI 0), .nilp, (eI 0)] [(0, 1, (.t 33)), (1, 1, (.t 34)), (2, 1, (.t 36))]),
      S 38 (.box true 6 (.t 37)),
      S 9 (.mv (.t 38))])
    (.seq (.ops [S 39 (.mv (.t 6)),
      S 40 (.mv (.t 6)),
      S 41 (.nz (.t 40)),
      S 42 (.fld 1 (.t 41)),
      S 43 (.ld false 1 (.t 42)),
      S 44 (.mv (.t 9)),
      S 45 (.lit 1 false [[.nilp]] [(0, (.t 44))]),
      S 46 (.app 1 false 8 (.t 43) (.t 45)),
      S 47 (.nz (.t 39)),
      S 48 (.fld 1 (.t 47)),
      E (.st 1 (.t 48) (.t 46))])
    (.ops [S 49 (.mv (.t 6)),
      S 50 (.mv (.t 6)),
      S 51 (.nz (.t 50)),
      S 52 (.fld 4 (.t 51)),
      S 53 (.ld false 1 (.t 52)),
      S 54 (.mv (.t 9)),
      S 55 (.mkf (.func n_engine_user_step) [(.t 54)] []),
      S 56 (.lit 1 false [[.nilf]] [(0, (.t 55))]),
      S 57 (.app 1 false 8 (.t 53) (.t 56)),
      S 58 (.nz (.t 49)),
      S 59 (.fld 4 (.t 58)),
      E (.st 1 (.t 59) (.t 57))])))))
   (.ops [S 60 (.bin .add .none (.t 28) (xI 1)),
     S 28 (.mv (.t 60))])))))))
 (.seq (.seq (.ops [S 61 (.fld 0 (.t 2)),
   S 62 (.ld false 1 (.t 61)),
   S 63 (.mv (xI 0))])
 (.block 2 (.loop [5, 6, 62, 63] (.seq (.ops [S 64 (.bin .lss .none (.t 63) (.t 62))])
   (.seq (.cond (.t 64)
    (.skip)
    (.exit 2))
   (.seq (.block 3 (.seq (.ops [S 65 (.mv (.t 63)),
      S 10 (.mv (.t 65))])
    (.seq (.ops [S 66 (.mv (.t 5)),
      S 67 (.mv (.t 10)),
      S 68 (.call n_worker_New [(.t 66), (.t 67)]),
      S 11 (.mv (.t 68))])
    (.seq (.ops [S 69 (.mv (.t 6)),
      S 70 (.mv (.t 6)),
      S 71 (.nz (.t 70)),
      S 72 (.fld 2 (.t 71)),
      S 73 (.ld false 1 (.t 72)),
      S 74 (.mv (.t 11)),
      S 75 (.lit 1 false [[.nilp]] [(0, (.t 74))]),
      S 76 (.app 1 false 8 (.t 73) (.t 75)),
      S 77 (.nz (.t 69)),
      S 78 (.fld 2 (.t 77)),
      E (.st 1 (.t 78) (.t 76))])
    (.ops [S 79 (.mv (.t 6)),
      S 80 (.mv (.t 6)),
      S 81 (.nz (.t 80)),
      S 82 (.fld 4 (.t 81)),
      S 83 (.ld false 1 (.t 82)),
      S 84 (.mv (.t 11)),
      S 85 (.mkf (.func n_worker_Worker_Step) [(.t 84)] []),
      S 86 (.lit 1 false [[.nilf]] [(0, (.t 85))]),
      S 87 (.app 1 false 8 (.t 83) (.t 86)),
      S 88 (.nz (.t 79)),
      S 89 (.fld 4 (.t 88)),
      E (.st 1 (.t 89) (.t 87))])))))
   (.ops [S 90 (.bin .add .none (.t 63) (xI 1)),
     S 63 (.mv (.t 90))])))))))
 (.seq (.ops [S 91 (.mv (.t 6)),
   S 92 (.mv (.t 6)),
   S 93 (.nz (.t 92)),
   S 94 (.fld 4 (.t 93)),
   S 95 (.ld false 1 (.t 94)),
   S 96 (.mv (.t 6)),
   S 97 (.nz (.t 96)),
   S 98 (.fld 3 (.t 97)),
   S 99 (.ld false 1 (.t 98)),
   S 100 (.mkf (.func n_merger_Merger_Step) [(.t 99)] []),
   S 101 (.lit 1 false [[.nilf]] [(0, (.t 100))]),
   S 102 (.app 1 false 8 (.t 95) (.t 101)),
   S 103 (.nz (.t 91)),
   S 104 (.fld 4 (.t 103)),
   E (.st 1 (.t 104) (.t 102))])
 (.seq (.ops [S 105 (.mv (.t 6)),
   S 4 (.mv (.t 105))])
 (.ret)))))))),
 [.tmp 4], false, false, false⟩
/- (*sibyl/engine.Engine).Step -/
def d_engine_Engine_Step : DFn := ⟨2,
 .seq (.ops [S 4 (.mv (xB false))])
 (.seq (.seq (.ops [S 7 (.mv (.t 0)),
   S 8 (.bin .eql .ptr (.t 7) (.v .nilp))])
 (.cond (.t 8)
  (.seq (.ops [S 4 (.mv (xB false))])
  (.ret))
  (.skip)))
 (.seq (.ops [S 9 (.mv (.t 0)),
   S 10 (.nz (.t 9)),
   S 11 (.fld 4 (.t 10)),
   S 12 (.ld false 1 (.t 11)),
   S 13 (.len 0 (.t 12)),
   S 5 (.mv (.t 13))])
 (.seq (.ops [S 14 (.mv (.t 0)),
   S 15 (.nz (.t 14)),
   S 16 (.fld 4 (.t 15)),
   S 17 (.ld false 1 (.t 16)),
   S 18 (.mv (.t 1)),
   S 19 (.mv (.t 5)),
   S 20 (.bin .rem .none (.t 18) (.t 19)),
   S 21 (.mv (.t 5)),
   S 22 (.bin .add .none (.t 20) (.t 21)),
   S 23 (.mv (.t 5)),
   S 24 (.bin .rem .none (.t 22) (.t 23)),
   S 25 (.ixa 1 (.t 17) (.t 24)),
   S 26 (.ld false 1 (.t 25)),
   S 27 (.callv (.t 26) []),
   S 6 (.mv (.t 27))])
 (.seq (.ops [S 28 (.mv (.t 0)),
   S 29 (.nz (.t 28)),
   S 30 (.fld 5 (.t 29)),
   S 31 (.ld false 1 (.t 30)),
   S 32 (.bin .add .none (.t 31) (xI 1)),
   S 33 (.nz (.t 28)),
   S 34 (.fld 5 (.t 33)),
   E (.st 1 (.t 34) (.t 32))])
 (.seq (.ops [S 35 (.mv (.t 6)),
   S 4 (.mv (.t 35))])
 (.ret)))))),
 [.tmp 4], false, false, false⟩
/- (*sibyl/engine.Engine).Tasks -/
def d_engine_Engine_Tasks : DFn := ⟨1,
 .seq (.ops [S 2 (.mv (xI 0))])
 (.seq (.seq (.ops [S 3 (.mv (.t 0)),
   S 4 (.bin .eql .ptr (.t 3) (.v .nilp))])
 (.cond (.t 4)
  (.seq (.ops [S 2 (.mv (xI 0))])
  (.ret))
  (.skip)))
 (.seq (.ops [S 5 (.mv (.t 0)),
   S 6 (.nz (.t 5)),
   S 7 (.fld 4 (.t 6)),
   S 8 (.ld false 1 (.t 7)),
   S 9 (.len 0 (.t 8)),
   S 2 (.mv (.t 9))])
 (.ret))),
 [.tmp 2], false, false, false⟩
/- (*sibyl/engine.Engine).Steps -/
def d_engine_Engine_Steps : DFn := ⟨1,
 .seq (.ops [S 2 (.mv (xI 0))])
 (.seq (.seq (.ops [S 3 (.mv (.t 0)),
   S 4 (.bin .eql .ptr (.t 3) (.v .nilp))])
 (.cond (.t 4)
  (.seq (.ops [S 2 (.mv (xI 0))])
  (.ret))
  (.skip)))
 (.seq (.ops [S 5 (.mv (.t 0)),
   S 6 (.nz (.t 5)),
   S 7 (.fld 5 (.t 6)),
   S 8 (.ld false 1 (.t 7)),
   S 2 (.mv (.t 8))])
 (.ret))),
 [.tmp 2], false, false, false⟩
/- (*sibyl/engine.Engine).Round -/
def d_engine_Engine_Round : DFn := ⟨1,
 .seq (.ops [S 2 (.mv (xI 0))])
 (.seq (.ops [S 3 (.mv (xI 0))])
 (.seq (.block 0 (.loop [0, 3] (.seq (.seq (.ops [S 5 (.mv (.t 0)),
     S 6 (.call n_engine_Engine_Quiet [(.t 5)]),
     S 7 (.un .not (.t 6)),
     S 8 (.mv (.t 7)),
     ⟨(some 9), .mv (.t 3), (some (8, true)), []⟩,
     ⟨(some 10), .bin .lss .none (.t 9) (xI 1099511627776), (some (8, true)), []⟩,
     S 11 (.pick (.t 8) (.t 10) (xB false))])
   (.cond (.t 11)
    (.skip)
    (.exit 0)))
   (.block 1 (.seq (.seq (.ops [S 12 (.mv (.t 0)),
      S 13 (.nz (.t 12)),
      S 14 (.fld 4 (.t 13)),
      S 15 (.ld false 1 (.t 14)),
      S 16 (.len 0 (.t 15)),
      S 17 (.mv (xI 0))])
    (.block 2 (.loop [0, 3, 16, 17] (.seq (.ops [S 18 (.bin .lss .none (.t 17) (.t 16))])
      (.seq (.cond (.t 18)
       (.skip)
       (.exit 2))
      (.seq (.block 3 (.seq (.ops [S 19 (.mv (.t 17)),
         S 4 (.mv (.t 19))])
       (.ops [S 20 (.mv (.t 0)),
         S 21 (.mv (.t 4)),
         S 22 (.call n_engine_Engine_Step [(.t 20), (.t 21)])])))
      (.ops [S 23 (.bin .add .none (.t 17) (xI 1)),
        S 17 (.mv (.t 23))])))))))
    (.ops [S 24 (.mv (.t 3)),
      S 25 (.bin .add .none (.t 24) (xI 1)),
      S 3 (.mv (.t 25))]))))))
 (.seq (.ops [S 26 (.mv (.t 3)),
   S 2 (.mv (.t 26))])
 (.ret)))),
 [.tmp 2], false, false, false⟩
/- (*sibyl/engine.Engine).Ended -/
def d_engine_Engine_Ended : DFn := ⟨1,
 .seq (.ops [S 2 (.nils 18 true)])
 (.seq (.seq (.ops [S 3 (.mv (.t 0)),
   S 4 (.bin .eql .ptr (.t 3) (.v .nilp))])
 (.cond (.t 4)
  (.seq (.ops [S 2 (.nils 18 true)])
  (.ret))
  (.skip)))
 (.seq (.ops [S 5 (.mv (.t 0)),
   S 6 (.nz (.t 5)),
   S 7 (.fld 6 (.t 6)),
   S 8 (.ld false 1 (.t 7)),
   S 9 (.call n_slices_Clone_26 [(.t 8)]),
   S 2 (.mv (.t 9))])
 (.ret))),
 [.tmp 2], false, false, false⟩
/- (*sibyl/engine.Engine).Open -/
def d_engine_Engine_Open : DFn := ⟨1,
 .seq (.ops [S 2 (.nils 18 true)])
 (.seq (.seq (.ops [S 6 (.mv (.t 0)),
   S 7 (.bin .eql .ptr (.t 6) (.v .nilp))])
 (.cond (.t 7)
  (.seq (.ops [S 2 (.nils 18 true)])
  (.ret))
  (.skip)))
 (.seq (.ops [S 3 (.nils 18 true)])
 (.seq (.seq (.ops [S 8 (.mv (.t 0)),
   S 9 (.nz (.t 8)),
   S 10 (.fld 1 (.t 9)),
   S 11 (.ld false 1 (.t 10)),
   S 12 (.len 0 (.t 11)),
   S 13 (.mv (xI 0))])
 (.block 0 (.loop [3, 11, 12, 13] (.seq (.ops [S 14 (.bin .lss .none (.t 13) (.t 12))])
   (.seq (.cond (.t 14)
    (.skip)
    (.exit 0))
   (.seq (.block 1 (.seq (.ops [S 15 (.ixa 1 (.t 11) (.t 13)),
      S 16 (.ld false 1 (.t 15)),
      S 5 (.mv (.t 16))])
    (.seq (.ops [S 17 (.mv (.t 5)),
      S 18 (.nz (.t 17)),
      S 19 (.fld 4 (.t 18)),
      S 20 (.ld false 1 (.t 19)),
      S 21 (.bin .neq .ptr (.t 20) (.v .nilp))])
    (.cond (.t 21)
     (.ops [S 22 (.mv (.t 3)),
       S 23 (.mv (.t 5)),
       S 24 (.call n_engine_user_done [(.t 23), (xI (-1))]),
       S 25 (.lit 18 true [[(eI 0), (eI 0), (eI 0), (eI 0), (eI 0), (eI 0), (eI 0), (eI 0), (eI 0), (eI 0), (eI 0), (eI 0), (.p (.str (bs []))), (eI 0), (eI 0), (eI 0), (eI 0), (.full [])]] [(0, (.t 24))]),
       S 26 (.app 18 true 168 (.t 22) (.t 25)),
       S 3 (.mv (.t 26))])
     (.skip)))))
   (.ops [S 27 (.bin .add .none (.t 13) (xI 1)),
     S 13 (.mv (.t 27))])))))))
 (.seq (.ops [S 28 (.mv (.t 3)),
   S 2 (.mv (.t 28))])
 (.ret))))),
 [.tmp 2], false, false, false⟩
/- (*sibyl/engine.Engine).Quiet -/
def d_engine_Engine_Quiet : DFn := ⟨1,
 .seq (.ops [S 2 (.mv (xB false))])
 (.seq (.seq (.ops [S 7 (.mv (.t 0)),
   S 8 (.bin .eql .ptr (.t 7) (.v .nilp))])
 (.cond (.t 8)
  (.seq (.ops [S 2 (.mv (xB true))])
  (.ret))
  (.skip)))
 (.seq (.ops [S 10 (.mv (.t 0)),
   S 11 (.nz (.t 10)),
   S 12 (.fld 0 (.t 11)),
   S 13 (.ld false 1 (.t 12)),
   S 14 (.call n_log_Log_Tail [(.t 13)]),
   S 9 (.mv (.t 14)),
   S 15 (.ext (.t 9) 0),
   S 16 (.ext (.t 9) 1),
   S 3 (.mv (.t 15)),
   S 4 (.mv (.t 16))])
 (.seq (.ops [S 5 (.mv (.v (.fn (.func 29) [] [])))])
 (.seq (.ops [S 6 (.mv (.v (.fn (.func 30) [] [])))])
 (.seq (.ops [S 17 (.mv (.t 0)),
   S 18 (.nz (.t 17)),
   S 19 (.fld 0 (.t 18)),
   S 20 (.ld false 1 (.t 19)),
   S 21 (.call n_log_Log_Low [(.t 20)]),
   S 22 (.mv (.t 3)),
   S 23 (.bin .eql .none (.t 21) (.t 22)),
   S 24 (.mv (.t 23)),
   ⟨(some 25), .mv (.t 0), (some (24, true)), []⟩,
   ⟨(some 26), .nz (.t 25), (some (24, true)), []⟩,
   ⟨(some 27), .fld 3 (.t 26), (some (24, true)), []⟩,
   ⟨(some 28), .ld false 1 (.t 27), (some (24, true)), []⟩,
   ⟨(some 29), .call n_merger_Merger_Calm [(.t 28)], (some (24, true)), []⟩,
   S 30 (.pick (.t 24) (.t 29) (xB false)),
   S 31 (.mv (.t 30)),
   ⟨(some 32), .mv (.t 0), (some (31, true)), []⟩,
   ⟨(some 33), .nz (.t 32), (some (31, true)), []⟩,
   ⟨(some 34), .fld 1 (.t 33), (some (31, true)), []⟩,
   ⟨(some 35), .ld false 1 (.t 34), (some (31, true)), []⟩,
   ⟨(some 36), .mv (.t 5), (some (31, true)), []⟩,
   ⟨(some 37), .call n_slices_ContainsFunc [(.t 35), (.t 36)], (some (31, true)), []⟩,
   ⟨(some 38), .un .not (.t 37), (some (31, true)), []⟩,
   S 39 (.pick (.t 31) (.t 38) (xB false)),
   S 40 (.mv (.t 39)),
   ⟨(some 41), .mv (.t 0), (some (40, true)), []⟩,
   ⟨(some 42), .nz (.t 41), (some (40, true)), []⟩,
   ⟨(some 43), .fld 2 (.t 42), (some (40, true)), []⟩,
   ⟨(some 44), .ld false 1 (.t 43), (some (40, true)), []⟩,
   ⟨(some 45), .mv (.t 6), (some (40, true)), []⟩,
   ⟨(some 46), .call n_slices_ContainsFunc_35 [(.t 44), (.t 45)], (some (40, true)), []⟩,
   ⟨(some 47), .un .not (.t 46), (some (40, true)), []⟩,
   S 48 (.pick (.t 40) (.t 47) (xB false)),
   S 2 (.mv (.t 48))])
 (.ret)))))),
 [.tmp 2], false, false, false⟩
/- (*sibyl/engine.Engine).Log -/
def d_engine_Engine_Log : DFn := ⟨1,
 .seq (.ops [S 2 (.mv (.v .nilp))])
 (.seq (.seq (.ops [S 3 (.mv (.t 0)),
   S 4 (.bin .eql .ptr (.t 3) (.v .nilp))])
 (.cond (.t 4)
  (.seq (.ops [S 2 (.mv (.v .nilp))])
  (.ret))
  (.skip)))
 (.seq (.ops [S 5 (.mv (.t 0)),
   S 6 (.nz (.t 5)),
   S 7 (.fld 0 (.t 6)),
   S 8 (.ld false 1 (.t 7)),
   S 2 (.mv (.t 8))])
 (.ret))),
 [.tmp 2], false, false, false⟩
/- (*sibyl/engine.Engine).Worker -/
def d_engine_Engine_Worker : DFn := ⟨2,
 .seq (.ops [S 4 (.mv (.v .nilp))])
 (.seq (.seq (.ops [S 5 (.mv (.t 0)),
   S 6 (.bin .eql .ptr (.t 5) (.v .nilp)),
   S 7 (.mv (.t 6)),
   ⟨(some 8), .mv (.t 1), (some (7, false)), []⟩,
   ⟨(some 9), .bin .lss .none (.t 8) (xI 0), (some (7, false)), []⟩,
   S 10 (.pick (.t 7) (xB true) (.t 9)),
   S 11 (.mv (.t 10)),
   ⟨(some 12), .mv (.t 1), (some (11, false)), []⟩,
   ⟨(some 13), .mv (.t 0), (some (11, false)), []⟩,
   ⟨(some 14), .nz (.t 13), (some (11, false)), []⟩,
   ⟨(some 15), .fld 2 (.t 14), (some (11, false)), []⟩,
   ⟨(some 16), .ld false 1 (.t 15), (some (11, false)), []⟩,
   ⟨(some 17), .len 0 (.t 16), (some (11, false)), []⟩,
   ⟨(some 18), .bin .geq .none (.t 12) (.t 17), (some (11, false)), []⟩,
   S 19 (.pick (.t 11) (xB true) (.t 18))])
 (.cond (.t 19)
  (.seq (.ops [S 4 (.mv (.v .nilp))])
  (.ret))
  (.skip)))
 (.seq (.ops [S 20 (.mv (.t 0)),
   S 21 (.nz (.t 20)),
   S 22 (.fld 2 (.t 21)),
   S 23 (.ld false 1 (.t 22)),
   S 24 (.mv (.t 1)),
   S 25 (.ixa 1 (.t 23) (.t 24)),
   S 26 (.ld false 1 (.t 25)),
   S 4 (.mv (.t 26))])
 (.ret))),
 [.tmp 4], false, false, false⟩
/- (*sibyl/engine.Engine).Merger -/
def d_engine_Engine_Merger : DFn := ⟨1,
 .seq (.ops [S 2 (.mv (.v .nilp))])
 (.seq (.seq (.ops [S 3 (.mv (.t 0)),
   S 4 (.bin .eql .ptr (.t 3) (.v .nilp))])
 (.cond (.t 4)
  (.seq (.ops [S 2 (.mv (.v .nilp))])
  (.ret))
  (.skip)))
 (.seq (.ops [S 5 (.mv (.t 0)),
   S 6 (.nz (.t 5)),
   S 7 (.fld 3 (.t 6)),
   S 8 (.ld false 1 (.t 7)),
   S 2 (.mv (.t 8))])
 (.ret))),
 [.tmp 2], false, false, false⟩
/- (sibyl/sibylref23.Spec).Config -/
def d_sibylref23_Spec_Config : DFn := ⟨1,
 .seq (.ops [S 1 (.box true 9 (.t 0)),
   S 2 (.new true [(eI 0), (eI 0), (eI 0), (eI 0), (eI 0), (eI 0), (eI 0)])])
 (.seq (.ops [S 3 (.fld 0 (.t 1)),
   S 4 (.ld false 1 (.t 3)),
   S 7 (.fld 1 (.t 1)),
   S 8 (.ld false 1 (.t 7)),
   S 11 (.fld 2 (.t 1)),
   S 12 (.ld false 1 (.t 11)),
   S 15 (.fld 3 (.t 1)),
   S 16 (.ld false 1 (.t 15)),
   S 19 (.fld 4 (.t 1)),
   S 20 (.ld false 1 (.t 19)),
   S 23 (.fld 5 (.t 1)),
   S 24 (.ld false 1 (.t 23)),
   S 27 (.fld 6 (.t 1)),
   S 28 (.ld false 1 (.t 27)),
   ⟨(some 5), .call n_sibylref23_Rest [(.t 4), (xI 3)], none, [(28, .ld false 1 (.t 27), none), (24, .ld false 1 (.t 23), none), (20, .ld false 1 (.t 19), none), (16, .ld false 1 (.t 15), none), (12, .ld false 1 (.t 11), none), (8, .ld false 1 (.t 7), none)]⟩,
   S 6 (.bin .add .none (xI 1) (.t 5)),
   ⟨(some 9), .call n_sibylref23_Rest [(.t 8), (xI 5)], none, [(28, .ld false 1 (.t 27), none), (24, .ld false 1 (.t 23), none), (20, .ld false 1 (.t 19), none), (16, .ld false 1 (.t 15), none), (12, .ld false 1 (.t 11), none)]⟩,
   S 10 (.bin .add .none (xI 1) (.t 9)),
   ⟨(some 13), .call n_sibylref23_Rest [(.t 12), (xI 9)], none, [(28, .ld false 1 (.t 27), none), (24, .ld false 1 (.t 23), none), (20, .ld false 1 (.t 19), none), (16, .ld false 1 (.t 15), none)]⟩,
   S 14 (.bin .add .none (xI 1) (.t 13)),
   ⟨(some 17), .call n_sibylref23_Rest [(.t 16), (xI 3)], none, [(28, .ld false 1 (.t 27), none), (24, .ld false 1 (.t 23), none), (20, .ld false 1 (.t 19), none)]⟩,
   S 18 (.bin .add .none (xI 1) (.t 17)),
   ⟨(some 21), .call n_sibylref23_Rest [(.t 20), (xI 9)], none, [(28, .ld false 1 (.t 27), none), (24, .ld false 1 (.t 23), none)]⟩,
   S 22 (.bin .add .none (xI 1) (.t 21)),
   ⟨(some 25), .call n_sibylref23_Rest [(.t 24), (xI 6)], none, [(28, .ld false 1 (.t 27), none)]⟩,
   S 26 (.bin .add .none (xI 1) (.t 25)),
   S 29 (.call n_sibylref23_Rest [(.t 28), (xI 40)]),
   S 30 (.bin .add .none (xI 1) (.t 29)),
   S 31 (.build [(eI 0), (eI 0), (eI 0), (eI 0), (eI 0), (eI 0), (eI 0)] [(0, 1, (.t 6)), (1, 1, (.t 10)), (2, 1, (.t 14)), (3, 1, (.t 18)), (4, 1, (.t 22)), (5, 1, (.t 26)), (6, 1, (.t 30))]),
   E (.st 7 (.t 2) (.t 31))])
 (.ret)),
 [.cell 2 true 7], false, false, false⟩
/- sibyl/sibyllaw23.awake -/
def d_sibyllaw23_awake : DFn := ⟨0,
 .seq (.ops [S 0 (.mv (xB false))])
 (.seq (.ops [S 7 (.build [(eI 0), (eI 0), (eI 0), (eI 0), (eI 0), (eI 0), (eI 0), (.full []), (.full [])] []),
   S 8 (.call n_sibylref23_Spec_Config [(.t 7)]),
   S 1 (.new true [(eI 0), (eI 0), (eI 0), (eI 0), (eI 0), (eI 0), (eI 0)]),
   E (.st 7 (.t 1) (.t 8))])
 (.seq (.ops [S 9 (.ld true 7 (.t 1)),
   S 10 (.call n_engine_New [(.t 9), (.v (.full []))]),
   S 2 (.mv (.t 10))])
 (.seq (.ops [S 11 (.ld true 7 (.t 1)),
   S 12 (.build [(eI 0), (eI 0), (eI 0), (eI 0), (eI 0), (eI 0), (eI 0), (.p (.str (bs []))), (eI 0), (eI 0)] [(0, 1, (xI 4))]),
   S 13 (.lit 10 true [[(eI 0), (eI 0), (eI 0), (eI 0), (eI 0), (eI 0), (eI 0), (.p (.str (bs []))), (eI 0), (eI 0)]] [(0, (.t 12))]),
   S 14 (.lit 1 false [[(.full [])]] [(0, (.t 13))]),
   S 15 (.call n_engine_New [(.t 11), (.t 14)]),
   S 3 (.mv (.t 15))])
 (.seq (.ops [S 16 (.mv (.t 2)),
   S 17 (.call n_engine_Engine_Round [(.t 16)]),
   S 4 (.mv (.t 17))])
 (.seq (.ops [S 18 (.mv (.t 3)),
   S 19 (.call n_engine_Engine_Round [(.t 18)]),
   S 5 (.mv (.t 19))])
 (.seq (.ops [S 20 (.mv (.t 3)),
   S 21 (.call n_engine_Engine_Ended [(.t 20)]),
   S 6 (.mv (.t 21))])
 (.seq (.ops [S 22 (.mv (.t 4)),
   S 23 (.bin .eql .none (.t 22) (xI 0)),
   S 24 (.mv (.t 23)),
   ⟨(some 25), .mv (.t 2), (some (24, true)), []⟩,
   ⟨(some 26), .call n_engine_Engine_Ended [(.t 25)], (some (24, true)), []⟩,
   ⟨(some 27), .len 0 (.t 26), (some (24, true)), []⟩,
   ⟨(some 28), .bin .eql .none (.t 27) (xI 0), (some (24, true)), []⟩,
   S 29 (.pick (.t 24) (.t 28) (xB false)),
   S 30 (.mv (.t 29)),
   ⟨(some 31), .mv (.t 5), (some (30, true)), []⟩,
   ⟨(some 32), .bin .eql .none (.t 31) (xI 1), (some (30, true)), []⟩,
   S 33 (.pick (.t 30) (.t 32) (xB false)),
   S 34 (.mv (.t 33)),
   ⟨(some 35), .mv (.t 6), (some (34, true)), []⟩,
   ⟨(some 36), .len 0 (.t 35), (some (34, true)), []⟩,
   ⟨(some 37), .bin .eql .none (.t 36) (xI 1), (some (34, true)), []⟩,
   S 38 (.pick (.t 34) (.t 37) (xB false)),
   S 39 (.mv (.t 38)),
   ⟨(some 40), .mv (.t 6), (some (39, true)), []⟩,
   ⟨(some 41), .ixa 18 (.t 40) (xI 0), (some (39, true)), []⟩,
   ⟨(some 42), .fld 15 (.t 41), (some (39, true)), []⟩,
   ⟨(some 43), .fld 0 (.t 42), (some (39, true)), []⟩,
   ⟨(some 44), .ld false 1 (.t 43), (some (39, true)), []⟩,
   ⟨(some 45), .bin .eql .none (.t 44) (xI 1), (some (39, true)), []⟩,
   S 46 (.pick (.t 39) (.t 45) (xB false)),
   S 47 (.mv (.t 46)),
   ⟨(some 48), .mv (.t 6), (some (47, true)), []⟩,
   ⟨(some 49), .ixa 18 (.t 48) (xI 0), (some (47, true)), []⟩,
   ⟨(some 50), .fld 2 (.t 49), (some (47, true)), []⟩,
   ⟨(some 51), .ld false 1 (.t 50), (some (47, true)), []⟩,
   ⟨(some 52), .bin .eql .none (.t 51) (xI 0), (some (47, true)), []⟩,
   S 53 (.pick (.t 47) (.t 52) (xB false)),
   S 54 (.mv (.t 53)),
   ⟨(some 55), .mv (.t 6), (some (54, true)), []⟩,
   ⟨(some 56), .ixa 18 (.t 55) (xI 0), (some (54, true)), []⟩,
   ⟨(some 57), .fld 3 (.t 56), (some (54, true)), []⟩,
   ⟨(some 58), .ld false 1 (.t 57), (some (54, true)), []⟩,
   ⟨(some 59), .bin .eql .none (.t 58) (xI 0), (some (54, true)), []⟩,
   S 60 (.pick (.t 54) (.t 59) (xB false)),
   S 0 (.mv (.t 60))])
 (.ret)))))))),
 [.tmp 0], false, true, false⟩
/- sibyl/log.New -/
def d_log_New : DFn := ⟨1,
 .seq (.ops [S 1 (.box true 7 (.t 0)),
   S 2 (.mv (.v .nilp))])
 (.seq (.seq (.ops [S 4 (.ld true 7 (.t 1)),
   S 5 (.call n_log_Right [(.t 4)]),
   S 6 (.un .not (.t 5))])
 (.cond (.t 6)
  (.seq (.ops [S 2 (.mv (.v .nilp))])
  (.ret))
  (.skip)))
 (.seq (.ops [S 7 (.ld true 7 (.t 1)),
   S 8 (.fld 2 (.t 1)),
   S 9 (.ld false 1 (.t 8)),
   S 11 (.fld 0 (.t 1)),
   S 12 (.ld false 1 (.t 11)),
   S 13 (.bin .add .none (.t 12) (xI 1)),
   S 16 (.fld 1 (.t 1)),
   S 17 (.ld false 1 (.t 16)),
   S 19 (.fld 0 (.t 1)),
   S 20 (.ld false 1 (.t 19)),
   S 21 (.mks 1 false 8 [(eI 0)] (.t 20) (.t 20)),
   S 22 (.mkmap),
   ⟨(some 10), .call n_store_New [(.t 9)], none, [(20, .ld false 1 (.t 19), none), (17, .ld false 1 (.t 16), none), (12, .ld false 1 (.t 11), none), (7, .ld true 7 (.t 1), none)]⟩,
   ⟨(some 14), .call n_epoch_New [(.t 13)], none, [(20, .ld false 1 (.t 19), none), (17, .ld false 1 (.t 16), none), (7, .ld true 7 (.t 1), none)]⟩,
   S 15 (.build [(eI 0), (eI 0), (eI 0), (eI 0), (eI 0), (eI 0), (eI 0), .nilp, .nilp] [(0, 7, (.t 7)), (7, 1, (.t 10)), (8, 1, (.t 14))]),
   ⟨(some 18), .call n_ring_New [(.t 17)], none, [(20, .ld false 1 (.t 19), none), (7, .ld true 7 (.t 1), none)]⟩,
   S 23 (.build [(eI 0), (eI 0), (eI 0), (eI 0), (eI 0), (eI 0), (eI 0), .nilp, .nilp, (eI 0), (eB false), .nilp, (.full []), (.full []), .nilmap] [(0, 9, (.t 15)), (11, 1, (.t 18)), (12, 1, (.t 21)), (14, 1, (.t 22))]),
   S 24 (.box true 15 (.t 23)),
   S 3 (.mv (.t 24))])
 (.seq (.seq (.ops [S 25 (.fld 0 (.t 1)),
   S 26 (.ld false 1 (.t 25)),
   S 27 (.mv (xI 0))])
 (.block 0 (.loop [1, 3, 26, 27] (.seq (.ops [S 28 (.bin .lss .none (.t 27) (.t 26))])
   (.seq (.cond (.t 28)
    (.skip)
    (.exit 0))
   (.seq (.block 1 (.ops [S 29 (.mv (.t 3)),
      S 30 (.mv (.t 3)),
      S 31 (.nz (.t 30)),
      S 32 (.fld 13 (.t 31)),
      S 33 (.ld false 1 (.t 32)),
      S 34 (.fld 1 (.t 1)),
      S 35 (.ld false 1 (.t 34)),
      ⟨(some 36), .call n_ring_New_40 [(.t 35)], none, [(33, .ld false 1 (.t 32), none)]⟩,
      S 37 (.lit 1 false [[.nilp]] [(0, (.t 36))]),
      S 38 (.app 1 false 8 (.t 33) (.t 37)),
      S 39 (.nz (.t 29)),
      S 40 (.fld 13 (.t 39)),
      E (.st 1 (.t 40) (.t 38))]))
   (.ops [S 41 (.bin .add .none (.t 27) (xI 1)),
     S 27 (.mv (.t 41))])))))))
 (.seq (.ops [S 42 (.mv (.t 3)),
   S 2 (.mv (.t 42))])
 (.ret))))),
 [.tmp 2], false, false, false⟩
/- sibyl/merger.New -/
def d_merger_New : DFn := ⟨1,
 .seq (.ops [S 2 (.mv (.v .nilp))])
 (.seq (.seq (.ops [S 3 (.mv (.t 0)),
   S 4 (.bin .eql .ptr (.t 3) (.v .nilp))])
 (.cond (.t 4)
  (.seq (.ops [S 2 (.mv (.v .nilp))])
  (.ret))
  (.skip)))
 (.seq (.ops [S 5 (.mv (.t 0)),
   S 6 (.mv (.t 0)),
   S 7 (.call n_log_Log_Config [(.t 6)]),
   S 8 (.fget 0 1 false (.t 7)),
   S 9 (.mv (.t 0)),
   S 10 (.call n_log_Log_Config [(.t 9)]),
   S 11 (.call n_queue_New [(.t 10)]),
   S 12 (.build [.nilp, (eI 0), .nilp, .nilf, (.full []), (eI 0), (eI 0), (.full []), (.full [])] [(0, 1, (.t 5)), (1, 1, (.t 8)), (2, 1, (.t 11))]),
   S 13 (.box true 9 (.t 12)),
   S 2 (.mv (.t 13))])
 (.ret))),
 [.tmp 2], false, false, false⟩
/- slices.Clone[[]sibyl/api.Call,sibyl/api.Call] -/
def d_slices_Clone : DFn := ⟨1,
 .seq (.ops [S 2 (.nils 10 true)])
 (.seq (.ops [S 5 (.lit 10 true [] []),
   S 6 (.mv (.t 0)),
   S 7 (.app 10 true 88 (.t 5) (.t 6)),
   S 2 (.mv (.t 7))])
 (.ret)),
 [.tmp 2], false, false, false⟩
/- (*sibyl/engine.user).step -/
def d_engine_user_step : DFn := ⟨1,
 .seq (.ops [S 2 (.mv (xB false))])
 (.seq (.ops [S 3 (.mv (xB true))])
 (.seq (.block 0 (.seq (.ops [S 43 (.mv (.t 0)),
    S 44 (.nz (.t 43)),
    S 45 (.fld 4 (.t 44)),
    S 46 (.ld false 1 (.t 45)),
    S 47 (.bin .neq .ptr (.t 46) (.v .nilp)),
    S 42 (.mv (.t 47))])
  (.cond (.t 42)
   (.ops [S 48 (.mv (.t 0)),
     S 49 (.nz (.t 48)),
     S 50 (.fld 4 (.t 49)),
     S 51 (.ld false 1 (.t 50)),
     S 52 (.call n_client_Client_Step [(.t 51)]),
     S 3 (.mv (.t 52))])
   (.seq (.ops [S 54 (.mv (.t 0)),
     S 55 (.nz (.t 54)),
     S 56 (.fld 3 (.t 55)),
     S 57 (.ld false 1 (.t 56)),
     S 58 (.mv (.t 0)),
     S 59 (.nz (.t 58)),
     S 60 (.fld 2 (.t 59)),
     S 61 (.ld false 1 (.t 60)),
     S 62 (.len 0 (.t 61)),
     S 63 (.bin .eql .none (.t 57) (.t 62)),
     S 53 (.mv (.t 63))])
   (.cond (.t 53)
    (.seq (.ops [S 2 (.mv (xB false))])
    (.ret))
    (.seq (.ops [S 4 (.mv (.t 0)),
      S 5 (.mv (.t 0)),
      S 6 (.nz (.t 5)),
      S 7 (.fld 0 (.t 6)),
      S 8 (.ld false 1 (.t 7)),
      S 9 (.nz (.t 8)),
      S 10 (.fld 0 (.t 9)),
      S 11 (.ld false 1 (.t 10)),
      S 12 (.mv (.t 0)),
      S 13 (.nz (.t 12)),
      S 14 (.fld 2 (.t 13)),
      S 15 (.ld false 1 (.t 14)),
      S 16 (.mv (.t 0)),
      S 17 (.nz (.t 16)),
      S 18 (.fld 3 (.t 17)),
      S 19 (.ld false 1 (.t 18)),
      S 20 (.ixa 10 (.t 15) (.t 19)),
      S 21 (.ld true 10 (.t 20)),
      S 22 (.call n_client_New [(.t 11), (.t 21)]),
      S 23 (.nz (.t 4)),
      S 24 (.fld 4 (.t 23)),
      E (.st 1 (.t 24) (.t 22))])
    (.seq (.ops [S 25 (.mv (.t 0)),
      S 26 (.mv (.t 0)),
      S 27 (.nz (.t 26)),
      S 28 (.fld 0 (.t 27)),
      S 29 (.ld false 1 (.t 28)),
      S 30 (.nz (.t 29)),
      S 31 (.fld 5 (.t 30)),
      S 32 (.ld false 1 (.t 31)),
      S 33 (.nz (.t 25)),
      S 34 (.fld 5 (.t 33)),
      E (.st 1 (.t 34) (.t 32))])
    (.ops [S 35 (.mv (.t 0)),
      S 36 (.nz (.t 35)),
      S 37 (.fld 3 (.t 36)),
      S 38 (.ld false 1 (.t 37)),
      S 39 (.bin .add .none (.t 38) (xI 1)),
      S 40 (.nz (.t 35)),
      S 41 (.fld 3 (.t 40)),
      E (.st 1 (.t 41) (.t 39))]))))))))
 (.seq (.seq (.ops [S 64 (.mv (.t 0)),
   S 65 (.nz (.t 64)),
   S 66 (.fld 4 (.t 65)),
   S 67 (.ld false 1 (.t 66)),
   S 68 (.call n_client_Client_Done [(.t 67)])])
 (.cond (.t 68)
  (.seq (.ops [S 69 (.mv (.t 0)),
    S 70 (.nz (.t 69)),
    S 71 (.fld 0 (.t 70)),
    S 72 (.ld false 1 (.t 71)),
    S 73 (.mv (.t 0)),
    S 74 (.mv (.t 0)),
    S 75 (.nz (.t 74)),
    S 76 (.fld 0 (.t 75)),
    S 77 (.ld false 1 (.t 76)),
    S 78 (.nz (.t 77)),
    S 79 (.fld 5 (.t 78)),
    S 80 (.ld false 1 (.t 79)),
    ⟨(some 81), .call n_engine_user_done [(.t 73), (.t 80)], none, [(72, .ld false 1 (.t 71), none)]⟩,
    S 82 (.lit 18 true [[(eI 0), (eI 0), (eI 0), (eI 0), (eI 0), (eI 0), (eI 0), (eI 0), (eI 0), (eI 0), (eI 0), (eI 0), (.p (.str (bs []))), (eI 0), (eI 0), (eI 0), (eI 0), (.full [])]] [(0, (.t 81))]),
    S 83 (.call n_engine_Engine_end [(.t 72), (.t 82)])])
  (.ops [S 84 (.mv (.t 0)),
    S 85 (.nz (.t 84)),
    S 86 (.fld 4 (.t 85)),
    E (.st 1 (.t 86) (.v .nilp))]))
  (.skip)))
 (.seq (.ops [S 87 (.mv (.t 3)),
   S 2 (.mv (.t 87))])
 (.ret))))),
 [.tmp 2], false, false, false⟩
/- sibyl/worker.New -/
def d_worker_New : DFn := ⟨2,
 .seq (.ops [S 4 (.mv (.v .nilp))])
 (.seq (.seq (.ops [S 6 (.mv (.t 0)),
   S 7 (.bin .eql .ptr (.t 6) (.v .nilp))])
 (.cond (.t 7)
  (.seq (.ops [S 4 (.mv (.v .nilp))])
  (.ret))
  (.skip)))
 (.seq (.ops [S 8 (.mv (.t 0)),
   S 9 (.call n_log_Log_Config [(.t 8)]),
   S 10 (.mv (.t 1)),
   S 11 (.call n_shard_New [(.t 9), (.t 10)]),
   S 5 (.mv (.t 11))])
 (.seq (.seq (.ops [S 12 (.mv (.t 5)),
   S 13 (.bin .eql .ptr (.t 12) (.v .nilp))])
 (.cond (.t 13)
  (.seq (.ops [S 4 (.mv (.v .nilp))])
  (.ret))
  (.skip)))
 (.seq (.ops [S 14 (.mv (.t 0)),
   S 15 (.mv (.t 1)),
   S 16 (.mv (.t 5)),
   S 17 (.build [.nilp, (eI 0), .nilp, .nilf, (eI 0), (eI 0), (eI 0), (eI 0), (eI 0), (eI 0), (eI 0), (eI 0), (eI 0), (eI 0), (eI 0), (.full []), (eI 0), (eB false), (.full []), (.full []), (.full []), (.full []), (.full []), (eB false)] [(0, 1, (.t 14)), (1, 1, (.t 15)), (2, 1, (.t 16))]),
   S 18 (.box true 24 (.t 17)),
   S 4 (.mv (.t 18))])
 (.ret))))),
 [.tmp 4], false, false, false⟩
/- (*sibyl/worker.Worker).Step -/
def d_worker_Worker_Step : DFn := ⟨1,
 .seq (.ops [S 2 (.mv (xB false))])
 (.seq (.block 0 (.seq (.ops [S 4 (.mv (.t 0)),
    S 5 (.call n_worker_Worker_Left [(.t 4)]),
    S 3 (.mv (.t 5))])
  (.cond (.t 3)
   (.seq (.ops [S 2 (.mv (xB false))])
   (.ret))
   (.seq (.ops [S 7 (.mv (.t 0)),
     S 8 (.nz (.t 7)),
     S 9 (.fld 3 (.t 8)),
     S 10 (.ld false 1 (.t 9)),
     S 11 (.bin .eql .fn (.t 10) (.v .nilf)),
     S 6 (.mv (.t 11))])
   (.cond (.t 6)
    (.seq (.ops [S 12 (.mv (.t 0)),
      S 13 (.call n_worker_Worker_look [(.t 12)]),
      S 2 (.mv (.t 13))])
    (.ret))
    (.skip))))))
 (.seq (.ops [S 14 (.mv (.t 0)),
   S 15 (.nz (.t 14)),
   S 16 (.fld 3 (.t 15)),
   S 17 (.ld false 1 (.t 16)),
   S 18 (.callv (.t 17) [])])
 (.seq (.ops [S 2 (.mv (xB true))])
 (.ret)))),
 [.tmp 2], false, false, false⟩
/- (*sibyl/merger.Merger).Step -/
def d_merger_Merger_Step : DFn := ⟨1,
 .seq (.ops [S 2 (.mv (xB false))])
 (.seq (.block 0 (.seq (.ops [S 4 (.mv (.t 0)),
    S 5 (.bin .eql .ptr (.t 4) (.v .nilp)),
    S 3 (.mv (.t 5))])
  (.cond (.t 3)
   (.seq (.ops [S 2 (.mv (xB false))])
   (.ret))
   (.seq (.ops [S 7 (.mv (.t 0)),
     S 8 (.nz (.t 7)),
     S 9 (.fld 3 (.t 8)),
     S 10 (.ld false 1 (.t 9)),
     S 11 (.bin .eql .fn (.t 10) (.v .nilf)),
     S 6 (.mv (.t 11))])
   (.cond (.t 6)
    (.seq (.ops [S 12 (.mv (.t 0)),
      S 13 (.call n_merger_Merger_collect [(.t 12)]),
      S 2 (.mv (.t 13))])
    (.ret))
    (.skip))))))
 (.seq (.ops [S 14 (.mv (.t 0)),
   S 15 (.nz (.t 14)),
   S 16 (.fld 3 (.t 15)),
   S 17 (.ld false 1 (.t 16)),
   S 18 (.callv (.t 17) [])])
 (.seq (.ops [S 2 (.mv (xB true))])
 (.ret)))),
 [.tmp 2], false, false, false⟩
/- slices.Clone[[]sibyl/api.Done,sibyl/api.Done] -/
def d_slices_Clone_26 : DFn := ⟨1,
 .seq (.ops [S 2 (.nils 18 true)])
 (.seq (.ops [S 5 (.lit 18 true [] []),
   S 6 (.mv (.t 0)),
   S 7 (.app 18 true 168 (.t 5) (.t 6)),
   S 2 (.mv (.t 7))])
 (.ret)),
 [.tmp 2], false, false, false⟩
/- (*sibyl/engine.user).done -/
def d_engine_user_done : DFn := ⟨2,
 .seq (.ops [S 4 (.new true [(eI 0), (eI 0), (eI 0), (eI 0), (eI 0), (eI 0), (eI 0), (eI 0), (eI 0), (eI 0), (eI 0), (eI 0), (.p (.str (bs []))), (eI 0), (eI 0), (eI 0), (eI 0), (.full [])])])
 (.seq (.ops [S 6 (.mv (.t 0)),
   S 7 (.nz (.t 6)),
   S 8 (.fld 1 (.t 7)),
   S 9 (.ld false 1 (.t 8)),
   S 10 (.mv (.t 0)),
   S 11 (.nz (.t 10)),
   S 12 (.fld 3 (.t 11)),
   S 13 (.ld false 1 (.t 12)),
   S 14 (.bin .sub .none (.t 13) (xI 1)),
   S 15 (.mv (.t 0)),
   S 16 (.nz (.t 15)),
   S 17 (.fld 5 (.t 16)),
   S 18 (.ld false 1 (.t 17)),
   S 19 (.mv (.t 1)),
   S 20 (.mv (.t 0)),
   S 21 (.nz (.t 20)),
   S 22 (.fld 4 (.t 21)),
   S 23 (.ld false 1 (.t 22)),
   S 25 (.mv (.t 0)),
   S 26 (.nz (.t 25)),
   S 27 (.fld 2 (.t 26)),
   S 28 (.ld false 1 (.t 27)),
   S 29 (.mv (.t 0)),
   S 30 (.nz (.t 29)),
   S 31 (.fld 3 (.t 30)),
   S 32 (.ld false 1 (.t 31)),
   S 33 (.bin .sub .none (.t 32) (xI 1)),
   S 34 (.ixa 10 (.t 28) (.t 33)),
   S 35 (.ld true 10 (.t 34)),
   S 5 (.new true [(eI 0), (eI 0), (eI 0), (eI 0), (eI 0), (eI 0), (eI 0), (eI 0), (eI 0), (eI 0), (eI 0), (eI 0), (.p (.str (bs []))), (eI 0), (eI 0), (eI 0), (eI 0), (.full [])]),
   ⟨(some 24), .call n_client_Client_Stamp [(.t 23)], none, [(35, .ld true 10 (.t 34), none), (32, .ld false 1 (.t 31), none), (28, .ld false 1 (.t 27), none), (18, .ld false 1 (.t 17), none), (13, .ld false 1 (.t 12), none), (9, .ld false 1 (.t 8), none)]⟩,
   S 36 (.build [(eI 0), (eI 0), (eI 0), (eI 0), (eI 0), (eI 0), (eI 0), (eI 0), (eI 0), (eI 0), (eI 0), (eI 0), (.p (.str (bs []))), (eI 0), (eI 0), (eI 0), (eI 0), (.full [])] [(0, 1, (.t 9)), (1, 1, (.t 14)), (2, 1, (.t 18)), (3, 1, (.t 19)), (4, 1, (.t 24)), (5, 10, (.t 35))]),
   E (.st 18 (.t 5) (.t 36))])
 (.seq (.seq (.ops [S 37 (.mv (.t 1)),
   S 38 (.bin .neq .none (.t 37) (xI (-1)))])
 (.cond (.t 38)
  (.ops [S 39 (.mv (.t 0)),
    S 40 (.nz (.t 39)),
    S 41 (.fld 4 (.t 40)),
    S 42 (.ld false 1 (.t 41)),
    S 43 (.call n_client_Client_Answer [(.t 42)]),
    S 44 (.fld 15 (.t 5)),
    E (.st 3 (.t 44) (.t 43))])
  (.skip)))
 (.seq (.ops [S 45 (.ld true 18 (.t 5)),
   E (.st 18 (.t 4) (.t 45))])
 (.ret)))),
 [.cell 4 true 18], false, false, false⟩
/- (*sibyl/log.Log).Tail -/
def d_log_Log_Tail : DFn := ⟨1,
 .seq (.ops [S 2 (.mv (xI 0)),
   S 3 (.mv (xB false))])
 (.seq (.seq (.ops [S 4 (.mv (.t 0)),
   S 5 (.bin .eql .ptr (.t 4) (.v .nilp))])
 (.cond (.t 5)
  (.seq (.ops [S 2 (.mv (xI 0)),
    S 3 (.mv (xB false))])
  (.ret))
  (.skip)))
 (.seq (.ops [S 6 (.mv (.t 0)),
   S 7 (.nz (.t 6)),
   S 8 (.fld 9 (.t 7)),
   S 9 (.ld false 1 (.t 8)),
   S 10 (.mv (.t 0)),
   S 11 (.nz (.t 10)),
   S 12 (.fld 10 (.t 11)),
   S 13 (.ld false 1 (.t 12)),
   S 2 (.mv (.t 9)),
   S 3 (.mv (.t 13))])
 (.ret))),
 [.tmp 2, .tmp 3], false, false, false⟩
/- (*sibyl/engine.Engine).Quiet$1 -/
def d_engine_Engine_Quiet_1 : DFn := ⟨1,
 .seq (.ops [S 2 (.mv (xB false))])
 (.seq (.ops [S 3 (.mv (.t 0)),
   S 4 (.nz (.t 3)),
   S 5 (.fld 4 (.t 4)),
   S 6 (.ld false 1 (.t 5)),
   S 7 (.bin .neq .ptr (.t 6) (.v .nilp)),
   S 8 (.mv (.t 7)),
   ⟨(some 9), .mv (.t 0), (some (8, false)), []⟩,
   ⟨(some 10), .nz (.t 9), (some (8, false)), []⟩,
   ⟨(some 11), .fld 3 (.t 10), (some (8, false)), []⟩,
   ⟨(some 12), .ld false 1 (.t 11), (some (8, false)), []⟩,
   ⟨(some 13), .mv (.t 0), (some (8, false)), []⟩,
   ⟨(some 14), .nz (.t 13), (some (8, false)), []⟩,
   ⟨(some 15), .fld 2 (.t 14), (some (8, false)), []⟩,
   ⟨(some 16), .ld false 1 (.t 15), (some (8, false)), []⟩,
   ⟨(some 17), .len 0 (.t 16), (some (8, false)), []⟩,
   ⟨(some 18), .bin .lss .none (.t 12) (.t 17), (some (8, false)), []⟩,
   S 19 (.pick (.t 8) (xB true) (.t 18)),
   S 2 (.mv (.t 19))])
 (.ret)),
 [.tmp 2], false, false, false⟩
/- (*sibyl/engine.Engine).Quiet$2 -/
def d_engine_Engine_Quiet_2 : DFn := ⟨1,
 .seq (.ops [S 2 (.mv (xB false))])
 (.seq (.ops [S 3 (.mv (.t 0)),
   S 4 (.call n_worker_Worker_Calm [(.t 3)]),
   S 5 (.un .not (.t 4)),
   S 2 (.mv (.t 5))])
 (.ret)),
 [.tmp 2], false, false, false⟩
/- (*sibyl/worker.Worker).Calm -/
def d_worker_Worker_Calm : DFn := ⟨1,
 .seq (.ops [S 2 (.mv (xB false))])
 (.seq (.ops [S 3 (.mv (.t 0)),
   S 4 (.bin .eql .ptr (.t 3) (.v .nilp)),
   S 5 (.mv (.t 4)),
   ⟨(some 6), .mv (.t 0), (some (5, false)), []⟩,
   ⟨(some 7), .nz (.t 6), (some (5, false)), []⟩,
   ⟨(some 8), .fld 3 (.t 7), (some (5, false)), []⟩,
   ⟨(some 9), .ld false 1 (.t 8), (some (5, false)), []⟩,
   ⟨(some 10), .bin .eql .fn (.t 9) (.v .nilf), (some (5, false)), []⟩,
   S 11 (.pick (.t 5) (xB true) (.t 10)),
   S 2 (.mv (.t 11))])
 (.ret)),
 [.tmp 2], false, false, false⟩
/- (*sibyl/log.Log).Low -/
def d_log_Log_Low : DFn := ⟨1,
 .seq (.ops [S 2 (.mv (xI 0))])
 (.seq (.seq (.ops [S 3 (.mv (.t 0)),
   S 4 (.bin .eql .ptr (.t 3) (.v .nilp))])
 (.cond (.t 4)
  (.seq (.ops [S 2 (.mv (xI 0))])
  (.ret))
  (.skip)))
 (.seq (.ops [S 5 (.mv (.t 0)),
   S 6 (.nz (.t 5)),
   S 7 (.fld 11 (.t 6)),
   S 8 (.ld false 1 (.t 7)),
   S 9 (.call n_ring_Ring_Low [(.t 8)]),
   S 2 (.mv (.t 9))])
 (.ret))),
 [.tmp 2], false, false, false⟩
/- (*sibyl/merger.Merger).Calm -/
def d_merger_Merger_Calm : DFn := ⟨1,
 .seq (.ops [S 2 (.mv (xB false))])
 (.seq (.ops [S 3 (.mv (.t 0)),
   S 4 (.bin .eql .ptr (.t 3) (.v .nilp)),
   S 5 (.mv (.t 4)),
   ⟨(some 6), .mv (.t 0), (some (5, false)), []⟩,
   ⟨(some 7), .nz (.t 6), (some (5, false)), []⟩,
   ⟨(some 8), .fld 3 (.t 7), (some (5, false)), []⟩,
   ⟨(some 9), .ld false 1 (.t 8), (some (5, false)), []⟩,
   ⟨(some 10), .bin .eql .fn (.t 9) (.v .nilf), (some (5, false)), []⟩,
   S 11 (.pick (.t 5) (xB true) (.t 10)),
   S 2 (.mv (.t 11))])
 (.ret)),
 [.tmp 2], false, false, false⟩
/- slices.ContainsFunc[[]*sibyl/engine.user,*sibyl/engine.user] -/
def d_slices_ContainsFunc : DFn := ⟨2,
 .seq (.ops [S 4 (.mv (xB false))])
 (.seq (.ops [S 5 (.mv (.t 0)),
   S 6 (.mv (.t 1)),
   S 7 (.call n_slices_IndexFunc [(.t 5), (.t 6)]),
   S 8 (.bin .geq .none (.t 7) (xI 0)),
   S 4 (.mv (.t 8))])
 (.ret)),
 [.tmp 4], false, false, false⟩
/- slices.ContainsFunc[[]*sibyl/worker.Worker,*sibyl/worker.Worker] -/
def d_slices_ContainsFunc_35 : DFn := ⟨2,
 .seq (.ops [S 4 (.mv (xB false))])
 (.seq (.ops [S 5 (.mv (.t 0)),
   S 6 (.mv (.t 1)),
   S 7 (.call n_slices_IndexFunc_55 [(.t 5), (.t 6)]),
   S 8 (.bin .geq .none (.t 7) (xI 0)),
   S 4 (.mv (.t 8))])
 (.ret)),
 [.tmp 4], false, false, false⟩
/- sibyl/log.Right -/
def d_log_Right : DFn := ⟨1,
 .seq (.ops [S 1 (.box true 7 (.t 0)),
   S 2 (.mv (xB false))])
 (.seq (.seq (.ops [S 5 (.fld 1 (.t 1)),
   S 6 (.ld false 1 (.t 5)),
   S 7 (.fld 2 (.t 1)),
   S 8 (.ld false 1 (.t 7)),
   S 9 (.fld 3 (.t 1)),
   S 10 (.ld false 1 (.t 9)),
   S 11 (.fld 4 (.t 1)),
   S 12 (.ld false 1 (.t 11)),
   S 13 (.fld 5 (.t 1)),
   S 14 (.ld false 1 (.t 13)),
   S 15 (.build [(eI 0), (eI 0), (eI 0), (eI 0), (eI 0)] [(0, 1, (.t 6)), (1, 1, (.t 8)), (2, 1, (.t 10)), (3, 1, (.t 12)), (4, 1, (.t 14))]),
   S 16 (.mv (xI 0))])
 (.block 0 (.loop [1, 15, 16] (.seq (.ops [S 17 (.bin .lss .none (.t 16) (xI 5))])
   (.seq (.cond (.t 17)
    (.skip)
    (.exit 0))
   (.seq (.block 1 (.seq (.ops [S 18 (.ixg 5 1 false (.t 15) (.t 16)),
      S 4 (.mv (.t 18))])
    (.seq (.ops [S 19 (.mv (.t 4)),
      S 20 (.bin .lss .none (.t 19) (xI 1)),
      S 21 (.mv (.t 20)),
      ⟨(some 22), .mv (.t 4), (some (21, false)), []⟩,
      ⟨(some 23), .bin .gtr .none (.t 22) (xI 4096), (some (21, false)), []⟩,
      S 24 (.pick (.t 21) (xB true) (.t 23))])
    (.cond (.t 24)
     (.seq (.ops [S 2 (.mv (xB false))])
     (.ret))
     (.skip)))))
   (.ops [S 25 (.bin .add .none (.t 16) (xI 1)),
     S 16 (.mv (.t 25))])))))))
 (.seq (.ops [S 26 (.fld 0 (.t 1)),
   S 27 (.ld false 1 (.t 26)),
   S 28 (.bin .geq .none (.t 27) (xI 1)),
   S 29 (.mv (.t 28)),
   ⟨(some 30), .fld 0 (.t 1), (some (29, true)), []⟩,
   ⟨(some 31), .ld false 1 (.t 30), (some (29, true)), []⟩,
   ⟨(some 32), .bin .leq .none (.t 31) (xI 15), (some (29, true)), []⟩,
   S 33 (.pick (.t 29) (.t 32) (xB false)),
   S 34 (.mv (.t 33)),
   ⟨(some 35), .fld 6 (.t 1), (some (34, true)), []⟩,
   ⟨(some 36), .ld false 1 (.t 35), (some (34, true)), []⟩,
   ⟨(some 37), .bin .geq .none (.t 36) (xI 1), (some (34, true)), []⟩,
   S 38 (.pick (.t 34) (.t 37) (xB false)),
   S 39 (.mv (.t 38)),
   ⟨(some 40), .fld 6 (.t 1), (some (39, true)), []⟩,
   ⟨(some 41), .ld false 1 (.t 40), (some (39, true)), []⟩,
   ⟨(some 42), .bin .leq .none (.t 41) (xI 1099511627776), (some (39, true)), []⟩,
   S 43 (.pick (.t 39) (.t 42) (xB false)),
   S 2 (.mv (.t 43))])
 (.ret))),
 [.tmp 2], false, true, false⟩
/- sibyl/store.New -/
def d_store_New : DFn := ⟨1,
 .seq (.ops [S 2 (.mv (.v .nilp))])
 (.seq (.seq (.ops [S 3 (.mv (.t 0)),
   S 4 (.bin .lss .none (.t 3) (xI 1)),
   S 5 (.mv (.t 4)),
   ⟨(some 6), .mv (.t 0), (some (5, false)), []⟩,
   ⟨(some 7), .bin .gtr .none (.t 6) (xI 4096), (some (5, false)), []⟩,
   S 8 (.pick (.t 5) (xB true) (.t 7))])
 (.cond (.t 8)
  (.seq (.ops [S 2 (.mv (.v .nilp))])
  (.ret))
  (.skip)))
 (.seq (.ops [S 9 (.mv (.t 0)),
   S 10 (.mks 9 true 72 [(eI 0), (eB false), (eI 0), (eI 0), (eI 0), (eI 0), (eI 0), (eI 0), (eI 0)] (.t 9) (.t 9)),
   S 11 (.build [(.full []), (eI 0), (eI 0)] [(0, 1, (.t 10))]),
   S 12 (.box true 3 (.t 11)),
   S 2 (.mv (.t 12))])
 (.ret))),
 [.tmp 2], false, false, false⟩
/- sibyl/epoch.New -/
def d_epoch_New : DFn := ⟨1,
 .seq (.ops [S 2 (.mv (.v .nilp))])
 (.seq (.seq (.ops [S 5 (.mv (.t 0)),
   S 6 (.bin .lss .none (.t 5) (xI 1)),
   S 7 (.mv (.t 6)),
   ⟨(some 8), .mv (.t 0), (some (7, false)), []⟩,
   ⟨(some 9), .bin .gtr .none (.t 8) (xI 16), (some (7, false)), []⟩,
   S 10 (.pick (.t 7) (xB true) (.t 9))])
 (.cond (.t 10)
  (.seq (.ops [S 2 (.mv (.v .nilp))])
  (.ret))
  (.skip)))
 (.seq (.ops [S 11 (.mv (.t 0)),
   S 12 (.build [(eI 0), (eI 0), (eI 0), (eI 0), (eI 0), (eI 0), (eI 0), (eI 0), (eI 0), (eI 0), (eI 0), (eI 0), (eI 0), (eI 0), (eI 0), (eI 0), (eI 0), (eI 0), (.full []), (.full []), (.full []), (.full []), (.full []), (.full []), (.full []), (.full []), (.full []), (.full []), (.full []), (.full []), (.full []), (.full []), (.full []), (.full [])] [(1, 1, (.t 11))]),
   S 13 (.box true 34 (.t 12)),
   S 3 (.mv (.t 13))])
 (.seq (.seq (.ops [S 14 (.mv (xI 0))])
 (.block 0 (.loop [3, 14] (.seq (.ops [S 15 (.bin .lss .none (.t 14) (xI 16))])
   (.seq (.cond (.t 15)
    (.skip)
    (.exit 0))
   (.seq (.block 1 (.seq (.ops [S 16 (.mv (.t 14)),
      S 4 (.mv (.t 16))])
    (.ops [S 17 (.mv (.t 3)),
      S 18 (.mv (.t 4)),
      S 19 (.nz (.t 17)),
      S 20 (.fld 2 (.t 19)),
      S 21 (.ixp 16 1 (.t 20) (.t 18)),
      E (.st 1 (.t 21) (xI (-1)))])))
   (.ops [S 22 (.bin .add .none (.t 14) (xI 1)),
     S 14 (.mv (.t 22))])))))))
 (.seq (.ops [S 23 (.mv (.t 3)),
   S 2 (.mv (.t 23))])
 (.ret))))),
 [.tmp 2], false, false, false⟩
/- sibyl/ring.New[sibyl/api.Command] -/
def d_ring_New : DFn := ⟨1,
 .seq (.ops [S 2 (.mv (.v .nilp))])
 (.seq (.seq (.ops [S 3 (.mv (.t 0)),
   S 4 (.bin .lss .none (.t 3) (xI 1)),
   S 5 (.mv (.t 4)),
   ⟨(some 6), .mv (.t 0), (some (5, false)), []⟩,
   ⟨(some 7), .bin .gtr .none (.t 6) (xI 4096), (some (5, false)), []⟩,
   S 8 (.pick (.t 5) (xB true) (.t 7))])
 (.cond (.t 8)
  (.seq (.ops [S 2 (.mv (.v .nilp))])
  (.ret))
  (.skip)))
 (.seq (.ops [S 9 (.mv (.t 0)),
   S 10 (.mks 15 true 136 [(eI 0), (eI 0), (eI 0), (eI 0), (eI 0), (eI 0), (eI 0), (eI 0), (eI 0), (eI 0), (eI 0), (.full []), (eI 0), (eB false), (eB false)] (.t 9) (.t 9)),
   S 11 (.build [(.full []), (eI 0)] [(0, 1, (.t 10))]),
   S 12 (.box true 2 (.t 11)),
   S 2 (.mv (.t 12))])
 (.ret))),
 [.tmp 2], false, false, false⟩
/- sibyl/ring.New[sibyl/api.Out] -/
def d_ring_New_40 : DFn := ⟨1,
 .seq (.ops [S 2 (.mv (.v .nilp))])
 (.seq (.seq (.ops [S 3 (.mv (.t 0)),
   S 4 (.bin .lss .none (.t 3) (xI 1)),
   S 5 (.mv (.t 4)),
   ⟨(some 6), .mv (.t 0), (some (5, false)), []⟩,
   ⟨(some 7), .bin .gtr .none (.t 6) (xI 4096), (some (5, false)), []⟩,
   S 8 (.pick (.t 5) (xB true) (.t 7))])
 (.cond (.t 8)
  (.seq (.ops [S 2 (.mv (.v .nilp))])
  (.ret))
  (.skip)))
 (.seq (.ops [S 9 (.mv (.t 0)),
   S 10 (.mks 5 true 104 [(.full []), (.full []), (.full []), (.full []), (eB false)] (.t 9) (.t 9)),
   S 11 (.build [(.full []), (eI 0)] [(0, 1, (.t 10))]),
   S 12 (.box true 2 (.t 11)),
   S 2 (.mv (.t 12))])
 (.ret))),
 [.tmp 2], false, false, false⟩
/- (*sibyl/log.Log).Config -/
def d_log_Log_Config : DFn := ⟨1,
 .seq (.ops [S 2 (.new true [(eI 0), (eI 0), (eI 0), (eI 0), (eI 0), (eI 0), (eI 0)])])
 (.seq (.seq (.ops [S 3 (.mv (.t 0)),
   S 4 (.bin .eql .ptr (.t 3) (.v .nilp))])
 (.cond (.t 4)
  (.seq (.ops [S 5 (.build [(eI 0), (eI 0), (eI 0), (eI 0), (eI 0), (eI 0), (eI 0)] []),
    E (.st 7 (.t 2) (.t 5))])
  (.ret))
  (.skip)))
 (.seq (.ops [S 6 (.mv (.t 0)),
   S 7 (.nz (.t 6)),
   S 8 (.fld 0 (.t 7)),
   S 9 (.fld 0 (.t 8)),
   S 10 (.ld true 7 (.t 9)),
   E (.st 7 (.t 2) (.t 10))])
 (.ret))),
 [.cell 2 true 7], false, false, false⟩
/- sibyl/queue.New -/
def d_queue_New : DFn := ⟨1,
 .seq (.ops [S 1 (.box true 7 (.t 0)),
   S 2 (.mv (.v .nilp))])
 (.seq (.seq (.ops [S 3 (.fld 3 (.t 1)),
   S 4 (.ld false 1 (.t 3)),
   S 5 (.bin .lss .none (.t 4) (xI 1)),
   S 6 (.mv (.t 5)),
   ⟨(some 7), .fld 3 (.t 1), (some (6, false)), []⟩,
   ⟨(some 8), .ld false 1 (.t 7), (some (6, false)), []⟩,
   ⟨(some 9), .bin .gtr .none (.t 8) (xI 4096), (some (6, false)), []⟩,
   S 10 (.pick (.t 6) (xB true) (.t 9)),
   S 11 (.mv (.t 10)),
   ⟨(some 12), .fld 5 (.t 1), (some (11, false)), []⟩,
   ⟨(some 13), .ld false 1 (.t 12), (some (11, false)), []⟩,
   ⟨(some 14), .bin .lss .none (.t 13) (xI 1), (some (11, false)), []⟩,
   S 15 (.pick (.t 11) (xB true) (.t 14)),
   S 16 (.mv (.t 15)),
   ⟨(some 17), .fld 5 (.t 1), (some (16, false)), []⟩,
   ⟨(some 18), .ld false 1 (.t 17), (some (16, false)), []⟩,
   ⟨(some 19), .bin .gtr .none (.t 18) (xI 4096), (some (16, false)), []⟩,
   S 20 (.pick (.t 16) (xB true) (.t 19))])
 (.cond (.t 20)
  (.seq (.ops [S 2 (.mv (.v .nilp))])
  (.ret))
  (.skip)))
 (.seq (.ops [S 21 (.ld true 7 (.t 1)),
   S 22 (.mkmap),
   S 23 (.build [(eI 0), (eI 0), (eI 0), (eI 0), (eI 0), (eI 0), (eI 0), .nilmap] [(0, 7, (.t 21)), (7, 1, (.t 22))]),
   S 24 (.box true 8 (.t 23)),
   S 2 (.mv (.t 24))])
 (.ret))),
 [.tmp 2], false, false, false⟩
/- (*sibyl/client.Client).Step -/
def d_client_Client_Step : DFn := ⟨1,
 .seq (.ops [S 2 (.mv (xB false))])
 (.seq (.seq (.ops [S 3 (.mv (.t 0)),
   S 4 (.call n_client_Client_Done [(.t 3)])])
 (.cond (.t 4)
  (.seq (.ops [S 2 (.mv (xB false))])
  (.ret))
  (.skip)))
 (.seq (.ops [S 5 (.mv (.t 0)),
   S 6 (.nz (.t 5)),
   S 7 (.fld 14 (.t 6)),
   S 8 (.ld false 1 (.t 7)),
   S 9 (.callv (.t 8) [])])
 (.seq (.ops [S 2 (.mv (xB true))])
 (.ret)))),
 [.tmp 2], false, false, false⟩
/- sibyl/client.New -/
def d_client_New : DFn := ⟨2,
 .seq (.ops [S 3 (.box true 10 (.t 1)),
   S 4 (.mv (.v .nilp))])
 (.seq (.seq (.ops [S 7 (.mv (.t 0)),
   S 8 (.bin .eql .ptr (.t 7) (.v .nilp))])
 (.cond (.t 8)
  (.seq (.ops [S 4 (.mv (.v .nilp))])
  (.ret))
  (.skip)))
 (.seq (.ops [S 9 (.mv (.t 0)),
   S 10 (.ld true 10 (.t 3)),
   S 11 (.build [.nilp, (eI 0), (eI 0), (eI 0), (eI 0), (eI 0), (eI 0), (eI 0), (.p (.str (bs []))), (eI 0), (eI 0), (.full []), (eI 0), (eB false), .nilf, (eI 0), (eI 0), (eB false), (eI 0), (eI 0), (eI 0), (eI 0), (.full [])] [(0, 1, (.t 9)), (1, 10, (.t 10)), (16, 1, (xI (-1)))]),
   S 12 (.box true 23 (.t 11)),
   S 5 (.mv (.t 12))])
 (.seq (.ops [S 13 (.mv (.t 5)),
   S 14 (.mv (.t 5)),
   S 15 (.mkf (.func n_client_Client_look) [(.t 14)] []),
   S 16 (.nz (.t 13)),
   S 17 (.fld 14 (.t 16)),
   E (.st 1 (.t 17) (.t 15))])
 (.seq (.seq (.ops [S 18 (.fld 0 (.t 3)),
   S 19 (.ld false 1 (.t 18))])
 (.block 0 (.seq (.block 4 (.seq (.block 3 (.seq (.block 2 (.seq (.block 1 (.seq (.seq (.seq (.ops [S 21 (.bin .eql .none (.t 19) (xI 2)),
        S 20 (.mv (.t 21))])
      (.cond (.t 20)
       (.exit 1)
       (.skip)))
      (.seq (.seq (.seq (.ops [S 23 (.bin .eql .none (.t 19) (xI 1)),
        S 22 (.mv (.t 23))])
      (.cond (.t 22)
       (.skip)
       (.seq (.ops [S 24 (.bin .eql .none (.t 19) (xI 3)),
         S 22 (.mv (.t 24))])
       (.cond (.t 22)
        (.skip)
        (.ops [S 25 (.bin .eql .none (.t 19) (xI 5)),
          S 22 (.mv (.t 25))])))))
      (.cond (.t 22)
       (.exit 2)
       (.skip)))
      (.seq (.ops [S 27 (.bin .eql .none (.t 19) (xI 4)),
        S 26 (.mv (.t 27))])
      (.cond (.t 26)
       (.exit 3)
       (.skip)))))
      (.exit 4)))
     (.seq (.seq (.ops [S 28 (.fld 7 (.t 3)),
       S 29 (.ld false 1 (.t 28)),
       S 30 (.call 57 [(.t 29)]),
       S 6 (.new true [(.full []), (eI 0), (eB false), (eI 0), (eI 0)]),
       E (.st 5 (.t 6) (.t 30))])
     (.seq (.ops [S 31 (.mv (.t 5)),
       S 32 (.fld 0 (.t 6)),
       S 33 (.ld true 3 (.t 32)),
       S 34 (.nz (.t 31)),
       S 35 (.fld 11 (.t 34)),
       E (.st 3 (.t 35) (.t 33))])
     (.seq (.ops [S 36 (.fld 3 (.t 6)),
       S 37 (.ld false 1 (.t 36)),
       S 38 (.bin .neq .none (.t 37) (xI 0))])
     (.cond (.t 38)
      (.ops [S 39 (.mv (.t 5)),
        S 40 (.fld 3 (.t 6)),
        S 41 (.ld false 1 (.t 40)),
        S 42 (.fld 4 (.t 6)),
        S 43 (.ld false 1 (.t 42)),
        S 44 (.call n_client_Client_end [(.t 39), (.t 41), (.t 43)])])
      (.skip)))))
     (.exit 0))))
    (.exit 0)))
   (.seq (.ops [S 45 (.fld 9 (.t 3)),
     S 46 (.ld false 1 (.t 45)),
     S 47 (.bin .geq .none (.t 46) (xI 1))])
   (.cond (.t 47)
    (.exit 0)
    (.skip)))))
  (.seq (.ops [S 48 (.mv (.t 5)),
    S 49 (.call n_client_Client_end [(.t 48), (xI 1), (xI 0)])])
  (.exit 0)))))
 (.seq (.ops [S 50 (.mv (.t 5)),
   S 4 (.mv (.t 50))])
 (.ret)))))),
 [.tmp 4], false, false, false⟩
/- (*sibyl/client.Client).Done -/
def d_client_Client_Done : DFn := ⟨1,
 .seq (.ops [S 2 (.mv (xB false))])
 (.seq (.ops [S 3 (.mv (.t 0)),
   S 4 (.bin .eql .ptr (.t 3) (.v .nilp)),
   S 5 (.mv (.t 4)),
   ⟨(some 6), .mv (.t 0), (some (5, false)), []⟩,
   ⟨(some 7), .nz (.t 6), (some (5, false)), []⟩,
   ⟨(some 8), .fld 14 (.t 7), (some (5, false)), []⟩,
   ⟨(some 9), .ld false 1 (.t 8), (some (5, false)), []⟩,
   ⟨(some 10), .bin .eql .fn (.t 9) (.v .nilf), (some (5, false)), []⟩,
   S 11 (.pick (.t 5) (xB true) (.t 10)),
   S 2 (.mv (.t 11))])
 (.ret)),
 [.tmp 2], false, false, false⟩
/- (*sibyl/engine.Engine).end -/
def d_engine_Engine_end : DFn := ⟨2,
 .ops [S 4 (.mv (.t 0)),
   S 5 (.mv (.t 0)),
   S 6 (.nz (.t 5)),
   S 7 (.fld 6 (.t 6)),
   S 8 (.ld false 1 (.t 7)),
   S 9 (.mv (.t 1)),
   S 10 (.app 18 true 168 (.t 8) (.t 9)),
   S 11 (.nz (.t 4)),
   S 12 (.fld 6 (.t 11)),
   E (.st 1 (.t 12) (.t 10))],
 [], false, false, false⟩
/- sibyl/shard.New -/
def d_shard_New : DFn := ⟨2,
 .seq (.ops [S 2 (.box true 7 (.t 0)),
   S 4 (.mv (.v .nilp))])
 (.seq (.seq (.ops [S 5 (.fld 0 (.t 2)),
   S 6 (.ld false 1 (.t 5)),
   S 7 (.call n_shard_within [(.t 6), (xI 15)]),
   S 8 (.un .not (.t 7)),
   S 9 (.mv (.t 8)),
   ⟨(some 10), .fld 4 (.t 2), (some (9, false)), []⟩,
   ⟨(some 11), .ld false 1 (.t 10), (some (9, false)), []⟩,
   ⟨(some 12), .call n_shard_within [(.t 11), (xI 4096)], (some (9, false)), []⟩,
   ⟨(some 13), .un .not (.t 12), (some (9, false)), []⟩,
   S 14 (.pick (.t 9) (xB true) (.t 13)),
   S 15 (.mv (.t 14)),
   ⟨(some 16), .fld 3 (.t 2), (some (15, false)), []⟩,
   ⟨(some 17), .ld false 1 (.t 16), (some (15, false)), []⟩,
   ⟨(some 18), .call n_shard_within [(.t 17), (xI 4096)], (some (15, false)), []⟩,
   ⟨(some 19), .un .not (.t 18), (some (15, false)), []⟩,
   S 20 (.pick (.t 15) (xB true) (.t 19)),
   S 21 (.mv (.t 20)),
   ⟨(some 22), .mv (.t 1), (some (21, false)), []⟩,
   ⟨(some 23), .bin .lss .none (.t 22) (xI 0), (some (21, false)), []⟩,
   S 24 (.pick (.t 21) (xB true) (.t 23)),
   S 25 (.mv (.t 24)),
   ⟨(some 26), .mv (.t 1), (some (25, false)), []⟩,
   ⟨(some 27), .fld 0 (.t 2), (some (25, false)), []⟩,
   ⟨(some 28), .ld false 1 (.t 27), (some (25, false)), []⟩,
   ⟨(some 29), .bin .geq .none (.t 26) (.t 28), (some (25, false)), []⟩,
   S 30 (.pick (.t 25) (xB true) (.t 29))])
 (.cond (.t 30)
  (.seq (.ops [S 4 (.mv (.v .nilp))])
  (.ret))
  (.skip)))
 (.seq (.ops [S 31 (.ld true 7 (.t 2)),
   S 32 (.mv (.t 1)),
   S 33 (.mkmap),
   S 34 (.build [(eI 0), (eI 0), (eI 0), (eI 0), (eI 0), (eI 0), (eI 0), (eI 0), (eI 0), .nilp, .nilmap, (eI 0)] [(0, 7, (.t 31)), (7, 1, (.t 32)), (8, 1, (xI (-1))), (10, 1, (.t 33))]),
   S 35 (.box true 12 (.t 34)),
   S 4 (.mv (.t 35))])
 (.ret))),
 [.tmp 4], false, false, false⟩
/- (*sibyl/worker.Worker).Left -/
def d_worker_Worker_Left : DFn := ⟨1,
 .seq (.ops [S 2 (.mv (xB false))])
 (.seq (.ops [S 3 (.mv (.t 0)),
   S 4 (.bin .eql .ptr (.t 3) (.v .nilp)),
   S 5 (.mv (.t 4)),
   ⟨(some 6), .mv (.t 0), (some (5, false)), []⟩,
   ⟨(some 7), .nz (.t 6), (some (5, false)), []⟩,
   ⟨(some 8), .fld 23 (.t 7), (some (5, false)), []⟩,
   ⟨(some 9), .ld false 1 (.t 8), (some (5, false)), []⟩,
   S 10 (.pick (.t 5) (xB true) (.t 9)),
   S 2 (.mv (.t 10))])
 (.ret)),
 [.tmp 2], false, false, false⟩
/- (*sibyl/worker.Worker).look -/
def d_worker_Worker_look : DFn := ⟨1,
 .seq (.ops [S 2 (.mv (xB false))])
 (.seq (.ops [S 6 (.mv (.t 0)),
   S 7 (.nz (.t 6)),
   S 8 (.fld 0 (.t 7)),
   S 9 (.ld false 1 (.t 8)),
   S 10 (.mv (.t 0)),
   S 11 (.nz (.t 10)),
   S 12 (.fld 0 (.t 11)),
   S 13 (.ld false 1 (.t 12)),
   S 14 (.mv (.t 0)),
   S 15 (.nz (.t 14)),
   S 16 (.fld 1 (.t 15)),
   S 17 (.ld false 1 (.t 16)),
   S 3 (.new true [(eI 0), (eI 0), (eI 0), (eI 0), (eI 0), (eI 0), (eI 0), (eI 0), (eI 0), (eI 0), (eI 0), (.full []), (eI 0), (eB false)]),
   ⟨(some 18), .call n_log_Log_Cursor [(.t 13), (.t 17)], none, [(9, .ld false 1 (.t 8), none)]⟩,
   S 19 (.call n_log_Log_Look [(.t 9), (.t 18)]),
   S 5 (.mv (.t 19)),
   S 20 (.ext (.t 5) 0),
   S 21 (.ext (.t 5) 1),
   E (.st 14 (.t 3) (.t 20)),
   S 4 (.mv (.t 21))])
 (.seq (.seq (.ops [S 22 (.mv (.t 4))])
 (.cond (.t 22)
  (.seq (.ops [S 23 (.mv (.t 0)),
    S 24 (.ld true 14 (.t 3)),
    S 25 (.nz (.t 23)),
    S 26 (.fld 4 (.t 25)),
    E (.st 14 (.t 26) (.t 24))])
  (.ops [S 27 (.mv (.t 0)),
    S 28 (.mv (.t 0)),
    S 29 (.mkf (.func n_worker_Worker_pin) [(.t 28)] []),
    S 30 (.nz (.t 27)),
    S 31 (.fld 3 (.t 30)),
    E (.st 1 (.t 31) (.t 29))]))
  (.skip)))
 (.seq (.ops [S 32 (.mv (.t 4)),
   S 2 (.mv (.t 32))])
 (.ret)))),
 [.tmp 2], false, false, false⟩
/- (*sibyl/merger.Merger).collect -/
def d_merger_Merger_collect : DFn := ⟨1,
 .seq (.ops [S 2 (.mv (xB false))])
 (.seq (.ops [S 6 (.mv (.t 0)),
   S 7 (.nz (.t 6)),
   S 8 (.fld 0 (.t 7)),
   S 9 (.ld false 1 (.t 8)),
   S 10 (.call n_log_Log_Collect [(.t 9)]),
   S 5 (.mv (.t 10)),
   S 11 (.ext (.t 5) 0),
   S 12 (.ext (.t 5) 1),
   S 3 (.mv (.t 11)),
   S 4 (.mv (.t 12))])
 (.seq (.seq (.ops [S 13 (.mv (.t 4))])
 (.cond (.t 13)
  (.seq (.ops [S 14 (.mv (.t 0)),
    S 15 (.mv (.t 3)),
    S 16 (.nz (.t 14)),
    S 17 (.fld 4 (.t 16)),
    E (.st 1 (.t 17) (.t 15))])
  (.ops [S 18 (.mv (.t 0)),
    S 19 (.mv (.t 0)),
    S 20 (.mkf (.func n_merger_Merger_do) [(.t 19)] []),
    S 21 (.nz (.t 18)),
    S 22 (.fld 3 (.t 21)),
    E (.st 1 (.t 22) (.t 20))]))
  (.skip)))
 (.seq (.ops [S 23 (.mv (.t 4)),
   S 2 (.mv (.t 23))])
 (.ret)))),
 [.tmp 2], false, false, false⟩
/- (*sibyl/client.Client).Stamp -/
def d_client_Client_Stamp : DFn := ⟨1,
 .seq (.ops [S 2 (.mv (xI 0))])
 (.seq (.seq (.ops [S 3 (.mv (.t 0)),
   S 4 (.bin .eql .ptr (.t 3) (.v .nilp))])
 (.cond (.t 4)
  (.seq (.ops [S 2 (.mv (xI (-1)))])
  (.ret))
  (.skip)))
 (.seq (.ops [S 5 (.mv (.t 0)),
   S 6 (.nz (.t 5)),
   S 7 (.fld 16 (.t 6)),
   S 8 (.ld false 1 (.t 7)),
   S 2 (.mv (.t 8))])
 (.ret))),
 [.tmp 2], false, false, false⟩
/- (*sibyl/client.Client).Answer -/
def d_client_Client_Answer : DFn := ⟨1,
 .seq (.ops [S 2 (.new true [(eI 0), (eI 0), (.full [])])])
 (.seq (.seq (.ops [S 3 (.mv (.t 0)),
   S 4 (.bin .eql .ptr (.t 3) (.v .nilp))])
 (.cond (.t 4)
  (.seq (.ops [S 5 (.build [(eI 0), (eI 0), (.full [])] [(0, 1, (xI 1))]),
    E (.st 3 (.t 2) (.t 5))])
  (.ret))
  (.skip)))
 (.seq (.ops [S 6 (.mv (.t 0)),
   S 7 (.nz (.t 6)),
   S 8 (.fld 20 (.t 7)),
   S 9 (.ld true 3 (.t 8)),
   E (.st 3 (.t 2) (.t 9))])
 (.ret))),
 [.cell 2 true 3], false, false, false⟩
/- (*sibyl/ring.Ring[sibyl/api.Command]).Low -/
def d_ring_Ring_Low : DFn := ⟨1,
 .seq (.ops [S 2 (.mv (xI 0))])
 (.seq (.seq (.ops [S 3 (.mv (.t 0)),
   S 4 (.bin .eql .ptr (.t 3) (.v .nilp))])
 (.cond (.t 4)
  (.seq (.ops [S 2 (.mv (xI 0))])
  (.ret))
  (.skip)))
 (.seq (.ops [S 5 (.mv (.t 0)),
   S 6 (.nz (.t 5)),
   S 7 (.fld 1 (.t 6)),
   S 8 (.ld false 1 (.t 7)),
   S 2 (.mv (.t 8))])
 (.ret))),
 [.tmp 2], false, false, false⟩
/- slices.IndexFunc[[]*sibyl/engine.user,*sibyl/engine.user] -/
def d_slices_IndexFunc : DFn := ⟨2,
 .seq (.ops [S 4 (.mv (xI 0))])
 (.seq (.seq (.ops [S 6 (.mv (.t 0)),
   S 7 (.len 0 (.t 6)),
   S 8 (.mv (xI 0))])
 (.block 0 (.loop [0, 1, 7, 8] (.seq (.ops [S 9 (.bin .lss .none (.t 8) (.t 7))])
   (.seq (.cond (.t 9)
    (.skip)
    (.exit 0))
   (.seq (.block 1 (.seq (.ops [S 10 (.mv (.t 8)),
      S 5 (.mv (.t 10))])
    (.seq (.ops [S 11 (.mv (.t 1)),
      S 12 (.mv (.t 0)),
      S 13 (.mv (.t 5)),
      S 14 (.ixa 1 (.t 12) (.t 13)),
      S 15 (.ld false 1 (.t 14)),
      S 16 (.callv (.t 11) [(.t 15)])])
    (.cond (.t 16)
     (.seq (.ops [S 17 (.mv (.t 5)),
       S 4 (.mv (.t 17))])
     (.ret))
     (.skip)))))
   (.ops [S 18 (.bin .add .none (.t 8) (xI 1)),
     S 8 (.mv (.t 18))])))))))
 (.seq (.ops [S 4 (.mv (xI (-1)))])
 (.ret))),
 [.tmp 4], false, false, false⟩
/- slices.IndexFunc[[]*sibyl/worker.Worker,*sibyl/worker.Worker] -/
def d_slices_IndexFunc_55 : DFn := ⟨2,
 .seq (.ops [S 4 (.mv (xI 0))])
 (.seq (.seq (.ops [S 6 (.mv (.t 0)),
   S 7 (.len 0 (.t 6)),
   S 8 (.mv (xI 0))])
 (.block 0 (.loop [0, 1, 7, 8] (.seq (.ops [S 9 (.bin .lss .none (.t 8) (.t 7))])
   (.seq (.cond (.t 9)
    (.skip)
    (.exit 0))
   (.seq (.block 1 (.seq (.ops [S 10 (.mv (.t 8)),
      S 5 (.mv (.t 10))])
    (.seq (.ops [S 11 (.mv (.t 1)),
      S 12 (.mv (.t 0)),
      S 13 (.mv (.t 5)),
      S 14 (.ixa 1 (.t 12) (.t 13)),
      S 15 (.ld false 1 (.t 14)),
      S 16 (.callv (.t 11) [(.t 15)])])
    (.cond (.t 16)
     (.seq (.ops [S 17 (.mv (.t 5)),
       S 4 (.mv (.t 17))])
     (.ret))
     (.skip)))))
   (.ops [S 18 (.bin .add .none (.t 8) (xI 1)),
     S 8 (.mv (.t 18))])))))))
 (.seq (.ops [S 4 (.mv (xI (-1)))])
 (.ret))),
 [.tmp 4], false, false, false⟩
/- (*sibyl/client.Client).look -/
def d_client_Client_look : DFn := ⟨1,
 .seq (.ops [S 5 (.mv (.t 0)),
   S 6 (.nz (.t 5)),
   S 7 (.fld 0 (.t 6)),
   S 8 (.ld false 1 (.t 7)),
   S 9 (.call n_log_Log_Tail [(.t 8)]),
   S 4 (.mv (.t 9)),
   S 10 (.ext (.t 4) 0),
   S 11 (.ext (.t 4) 1),
   S 2 (.mv (.t 10)),
   S 3 (.mv (.t 11))])
 (.seq (.ops [S 12 (.mv (.t 0)),
   S 13 (.mv (.t 2)),
   S 14 (.nz (.t 12)),
   S 15 (.fld 15 (.t 14)),
   E (.st 1 (.t 15) (.t 13))])
 (.block 0 (.seq (.ops [S 22 (.mv (.t 3)),
    S 23 (.mv (.t 22)),
    ⟨(some 24), .mv (.t 0), (some (23, true)), []⟩,
    ⟨(some 25), .nz (.t 24), (some (23, true)), []⟩,
    ⟨(some 26), .fld 1 (.t 25), (some (23, true)), []⟩,
    ⟨(some 27), .fld 0 (.t 26), (some (23, true)), []⟩,
    ⟨(some 28), .ld false 1 (.t 27), (some (23, true)), []⟩,
    ⟨(some 29), .bin .neq .none (.t 28) (xI 4), (some (23, true)), []⟩,
    S 30 (.pick (.t 23) (.t 29) (xB false)),
    S 21 (.mv (.t 30))])
  (.cond (.t 21)
   (.ops [S 31 (.mv (.t 0)),
     S 32 (.call n_client_Client_end [(.t 31), (xI 17), (xI 0)])])
   (.seq (.ops [S 34 (.mv (.t 2)),
     S 35 (.mv (.t 0)),
     S 36 (.nz (.t 35)),
     S 37 (.fld 0 (.t 36)),
     S 38 (.ld false 1 (.t 37)),
     S 39 (.call n_log_Log_Config [(.t 38)]),
     S 40 (.fget 6 1 false (.t 39)),
     S 41 (.bin .eql .none (.t 34) (.t 40)),
     S 33 (.mv (.t 41))])
   (.cond (.t 33)
    (.ops [S 42 (.mv (.t 0)),
      S 43 (.call n_client_Client_end [(.t 42), (xI 19), (xI 0)])])
    (.ops [S 16 (.mv (.t 0)),
      S 17 (.mv (.t 0)),
      S 18 (.mkf (.func n_client_Client_room) [(.t 17)] []),
      S 19 (.nz (.t 16)),
      S 20 (.fld 14 (.t 19)),
      E (.st 1 (.t 20) (.t 18))]))))))),
 [], false, false, false⟩
/- (*sibyl/client.Client).end -/
def d_client_Client_end : DFn := ⟨3,
 .ops [S 6 (.mv (.t 0)),
   S 7 (.mv (.t 0)),
   S 8 (.mv (.t 1)),
   S 9 (.mv (.t 2)),
   S 10 (.build [(eI 0), (eI 0), (.full [])] [(0, 1, (.t 8)), (1, 1, (.t 9))]),
   S 11 (.nz (.t 6)),
   S 12 (.fld 14 (.t 11)),
   E (.st 1 (.t 12) (.v .nilf)),
   S 13 (.nz (.t 7)),
   S 14 (.fld 20 (.t 13)),
   E (.st 3 (.t 14) (.t 10))],
 [], false, false, false⟩
/- sibyl/shard.within -/
def d_shard_within : DFn := ⟨2,
 .seq (.ops [S 4 (.mv (xB false))])
 (.seq (.ops [S 5 (.mv (.t 0)),
   S 6 (.bin .geq .none (.t 5) (xI 1)),
   S 7 (.mv (.t 6)),
   ⟨(some 8), .mv (.t 0), (some (7, true)), []⟩,
   ⟨(some 9), .mv (.t 1), (some (7, true)), []⟩,
   ⟨(some 10), .bin .leq .none (.t 8) (.t 9), (some (7, true)), []⟩,
   S 11 (.pick (.t 7) (.t 10) (xB false)),
   S 4 (.mv (.t 11))])
 (.ret)),
 [.tmp 4], false, true, false⟩
/- (*sibyl/log.Log).Look -/
def d_log_Log_Look : DFn := ⟨2,
 .seq (.ops [S 4 (.new true [(eI 0), (eI 0), (eI 0), (eI 0), (eI 0), (eI 0), (eI 0), (eI 0), (eI 0), (eI 0), (eI 0), (.full []), (eI 0), (eB false)]),
   S 5 (.mv (xB false))])
 (.seq (.seq (.ops [S 6 (.mv (.t 0)),
   S 7 (.bin .eql .ptr (.t 6) (.v .nilp))])
 (.cond (.t 7)
  (.seq (.ops [S 8 (.build [(eI 0), (eI 0), (eI 0), (eI 0), (eI 0), (eI 0), (eI 0), (eI 0), (eI 0), (eI 0), (eI 0), (.full []), (eI 0), (eB false)] []),
    E (.st 14 (.t 4) (.t 8)),
    S 5 (.mv (xB false))])
  (.ret))
  (.skip)))
 (.seq (.ops [S 9 (.mv (.t 0)),
   S 10 (.nz (.t 9)),
   S 11 (.fld 11 (.t 10)),
   S 12 (.ld false 1 (.t 11)),
   S 13 (.mv (.t 1)),
   S 14 (.call n_ring_Ring_Get [(.t 12), (.t 13)]),
   S 15 (.ext (.t 14) 0),
   S 16 (.ext (.t 14) 1),
   E (.st 14 (.t 4) (.t 15)),
   S 5 (.mv (.t 16))])
 (.ret))),
 [.cell 4 true 14, .tmp 5], false, false, false⟩
/- (*sibyl/log.Log).Cursor -/
def d_log_Log_Cursor : DFn := ⟨2,
 .seq (.ops [S 4 (.mv (xI 0))])
 (.seq (.seq (.ops [S 5 (.mv (.t 0)),
   S 6 (.bin .eql .ptr (.t 5) (.v .nilp)),
   S 7 (.mv (.t 6)),
   ⟨(some 8), .mv (.t 1), (some (7, false)), []⟩,
   ⟨(some 9), .bin .lss .none (.t 8) (xI 0), (some (7, false)), []⟩,
   S 10 (.pick (.t 7) (xB true) (.t 9)),
   S 11 (.mv (.t 10)),
   ⟨(some 12), .mv (.t 1), (some (11, false)), []⟩,
   ⟨(some 13), .mv (.t 0), (some (11, false)), []⟩,
   ⟨(some 14), .nz (.t 13), (some (11, false)), []⟩,
   ⟨(some 15), .fld 12 (.t 14), (some (11, false)), []⟩,
   ⟨(some 16), .ld false 1 (.t 15), (some (11, false)), []⟩,
   ⟨(some 17), .len 0 (.t 16), (some (11, false)), []⟩,
   ⟨(some 18), .bin .geq .none (.t 12) (.t 17), (some (11, false)), []⟩,
   S 19 (.pick (.t 11) (xB true) (.t 18))])
 (.cond (.t 19)
  (.seq (.ops [S 4 (.mv (xI (-1)))])
  (.ret))
  (.skip)))
 (.seq (.ops [S 20 (.mv (.t 0)),
   S 21 (.nz (.t 20)),
   S 22 (.fld 12 (.t 21)),
   S 23 (.ld false 1 (.t 22)),
   S 24 (.mv (.t 1)),
   S 25 (.ixa 1 (.t 23) (.t 24)),
   S 26 (.ld false 1 (.t 25)),
   S 4 (.mv (.t 26))])
 (.ret))),
 [.tmp 4], false, false, false⟩
/- (*sibyl/worker.Worker).pin -/
def d_worker_Worker_pin : DFn := ⟨1,
 .seq (.ops [S 2 (.mv (.t 0)),
   S 3 (.nz (.t 2)),
   S 4 (.fld 0 (.t 3)),
   S 5 (.ld false 1 (.t 4)),
   S 7 (.mv (.t 0)),
   S 8 (.nz (.t 7)),
   S 9 (.fld 1 (.t 8)),
   S 10 (.ld false 1 (.t 9)),
   ⟨(some 6), .call n_log_Log_Epochs [(.t 5)], none, [(10, .ld false 1 (.t 9), none)]⟩,
   S 11 (.call 70 [(.t 6), (.t 10)])])
 (.ops [S 12 (.mv (.t 0)),
   S 13 (.mv (.t 0)),
   S 14 (.mkf (.func 71) [(.t 13)] []),
   S 15 (.nz (.t 12)),
   S 16 (.fld 3 (.t 15)),
   E (.st 1 (.t 16) (.t 14))]),
 [], false, false, false⟩
/- (*sibyl/log.Log).Collect -/
def d_log_Log_Collect : DFn := ⟨1,
 .seq (.ops [S 1 (.box false 1 (.t 0)),
   S 2 (.nils 4 true),
   S 3 (.mv (xB false))])
 (.seq (.ops [S 11 (.ld false 1 (.t 1)),
   S 12 (.ld false 1 (.t 1)),
   S 4 (.new true [(eI 0), (eI 0), (eI 0), (eI 0), (eI 0), (eI 0), (eI 0), (eI 0), (eI 0), (eI 0), (eI 0), (.full []), (eI 0), (eB false)]),
   ⟨(some 13), .call n_log_Log_Low [(.t 12)], none, [(11, .ld false 1 (.t 1), none)]⟩,
   S 14 (.call n_log_Log_Look [(.t 11), (.t 13)]),
   S 10 (.mv (.t 14)),
   S 15 (.ext (.t 10) 0),
   S 16 (.ext (.t 10) 1),
   E (.st 14 (.t 4) (.t 15)),
   S 5 (.mv (.t 16))])
 (.seq (.ops [S 17 (.mkf (.func n_log_Log_Collect_1) [] [(.t 1), (.t 4)]),
   S 6 (.mv (.t 17))])
 (.seq (.seq (.ops [S 18 (.mv (.t 5)),
   S 19 (.un .not (.t 18)),
   S 20 (.mv (.t 19)),
   ⟨(some 21), .ld false 1 (.t 1), (some (20, false)), []⟩,
   ⟨(some 22), .nz (.t 21), (some (20, false)), []⟩,
   ⟨(some 23), .fld 12 (.t 22), (some (20, false)), []⟩,
   ⟨(some 24), .ld false 1 (.t 23), (some (20, false)), []⟩,
   ⟨(some 25), .mv (.t 6), (some (20, false)), []⟩,
   ⟨(some 26), .call n_slices_ContainsFunc_73 [(.t 24), (.t 25)], (some (20, false)), []⟩,
   S 27 (.pick (.t 20) (xB true) (.t 26))])
 (.cond (.t 27)
  (.seq (.ops [S 2 (.nils 4 true),
    S 3 (.mv (xB false))])
  (.ret))
  (.skip)))
 (.seq (.ops [S 28 (.ld false 1 (.t 1)),
   S 29 (.nz (.t 28)),
   S 30 (.fld 13 (.t 29)),
   S 31 (.ld false 1 (.t 30)),
   S 32 (.len 0 (.t 31)),
   S 33 (.mks 4 true 96 [(.full []), (.full []), (.full []), (.full [])] (.t 32) (.t 32)),
   S 7 (.mv (.t 33))])
 (.seq (.seq (.ops [S 34 (.ld false 1 (.t 1)),
   S 35 (.nz (.t 34)),
   S 36 (.fld 13 (.t 35)),
   S 37 (.ld false 1 (.t 36)),
   S 38 (.len 0 (.t 37)),
   S 39 (.mv (xI 0))])
 (.block 0 (.loop [1, 7, 37, 38, 39] (.seq (.ops [S 40 (.bin .lss .none (.t 39) (.t 38))])
   (.seq (.cond (.t 40)
    (.skip)
    (.exit 0))
   (.seq (.block 1 (.seq (.ops [S 41 (.mv (.t 39)),
      S 42 (.ixa 1 (.t 37) (.t 39)),
      S 43 (.ld false 1 (.t 42)),
      S 8 (.mv (.t 41)),
      S 9 (.mv (.t 43))])
    (.ops [S 45 (.mv (.t 7)),
      S 46 (.mv (.t 8)),
      S 47 (.mv (.t 9)),
      S 48 (.ld false 1 (.t 1)),
      S 49 (.call n_log_Log_Low [(.t 48)]),
      S 50 (.call n_ring_Ring_Get_74 [(.t 47), (.t 49)]),
      S 44 (.mv (.t 50)),
      S 51 (.ext (.t 44) 0),
      S 52 (.ext (.t 44) 1),
      S 53 (.ixa 4 (.t 45) (.t 46)),
      E (.st 4 (.t 53) (.t 51))])))
   (.ops [S 54 (.bin .add .none (.t 39) (xI 1)),
     S 39 (.mv (.t 54))])))))))
 (.seq (.ops [S 55 (.mv (.t 7)),
   S 2 (.mv (.t 55)),
   S 3 (.mv (xB true))])
 (.ret))))))),
 [.tmp 2, .tmp 3], false, false, false⟩
/- (*sibyl/merger.Merger).do -/
def d_merger_Merger_do : DFn := ⟨1,
 .seq (.ops [S 5 (.mv (.t 0)),
   S 6 (.nz (.t 5)),
   S 7 (.fld 0 (.t 6)),
   S 8 (.ld false 1 (.t 7)),
   S 9 (.call n_log_Log_Low [(.t 8)]),
   S 2 (.mv (.t 9))])
 (.seq (.ops [S 11 (.mv (.t 0)),
   S 12 (.nz (.t 11)),
   S 13 (.fld 0 (.t 12)),
   S 14 (.ld false 1 (.t 13)),
   S 15 (.mv (.t 2)),
   S 16 (.call n_log_Log_Look [(.t 14), (.t 15)]),
   S 10 (.mv (.t 16)),
   S 17 (.ext (.t 10) 0),
   S 18 (.ext (.t 10) 1),
   S 3 (.new true [(eI 0), (eI 0), (eI 0), (eI 0), (eI 0), (eI 0), (eI 0), (eI 0), (eI 0), (eI 0), (eI 0), (.full []), (eI 0), (eB false)]),
   E (.st 14 (.t 3) (.t 17)),
   S 4 (.mv (.t 18))])
 (.seq (.ops [S 20 (.mv (.t 0)),
   S 21 (.mv (.t 0)),
   S 22 (.mv (.t 0)),
   S 23 (.nz (.t 22)),
   S 24 (.fld 2 (.t 23)),
   S 25 (.ld false 1 (.t 24)),
   S 26 (.mv (.t 2)),
   S 27 (.ld true 14 (.t 3)),
   S 28 (.mv (.t 0)),
   S 29 (.nz (.t 28)),
   S 30 (.fld 4 (.t 29)),
   S 31 (.ld false 1 (.t 30)),
   S 32 (.call 75 [(.t 25), (.t 26), (.t 27), (.t 31)]),
   S 19 (.mv (.t 32)),
   S 33 (.ext (.t 19) 0),
   S 34 (.ext (.t 19) 1),
   S 35 (.nz (.t 20)),
   S 36 (.fld 5 (.t 35)),
   E (.st 3 (.t 36) (.t 33)),
   S 37 (.nz (.t 21)),
   S 38 (.fld 8 (.t 37)),
   E (.st 1 (.t 38) (.t 34))])
 (.ops [S 39 (.mv (.t 0)),
   S 40 (.call 76 [(.t 39)])]))),
 [], false, false, false⟩
/- (*sibyl/client.Client).room -/
def d_client_Client_room : DFn := ⟨1,
 .block 0 (.seq (.ops [S 8 (.mv (.t 0)),
    S 9 (.nz (.t 8)),
    S 10 (.fld 15 (.t 9)),
    S 11 (.ld false 1 (.t 10)),
    S 12 (.mv (.t 0)),
    S 13 (.nz (.t 12)),
    S 14 (.fld 0 (.t 13)),
    S 15 (.ld false 1 (.t 14)),
    S 18 (.mv (.t 0)),
    S 19 (.nz (.t 18)),
    S 20 (.fld 0 (.t 19)),
    S 21 (.ld false 1 (.t 20)),
    ⟨(some 16), .call n_log_Log_Low [(.t 15)], none, [(21, .ld false 1 (.t 20), none), (11, .ld false 1 (.t 10), none)]⟩,
    S 17 (.bin .sub .none (.t 11) (.t 16)),
    ⟨(some 22), .call n_log_Log_Config [(.t 21)], none, [(11, .ld false 1 (.t 10), none)]⟩,
    S 23 (.fget 1 1 false (.t 22)),
    S 24 (.bin .geq .none (.t 17) (.t 23)),
    S 7 (.mv (.t 24))])
  (.cond (.t 7)
   (.ops [S 25 (.mv (.t 0)),
     S 26 (.call n_client_Client_end [(.t 25), (xI 16), (xI 0)])])
   (.seq (.ops [S 28 (.mv (.t 0)),
     S 29 (.nz (.t 28)),
     S 30 (.fld 1 (.t 29)),
     S 31 (.fld 0 (.t 30)),
     S 32 (.ld false 1 (.t 31)),
     S 33 (.bin .eql .none (.t 32) (xI 1)),
     S 27 (.mv (.t 33))])
   (.cond (.t 27)
    (.ops [S 34 (.mv (.t 0)),
      S 35 (.mv (.t 0)),
      S 36 (.mkf (.func 77) [(.t 35)] []),
      S 37 (.nz (.t 34)),
      S 38 (.fld 14 (.t 37)),
      E (.st 1 (.t 38) (.t 36))])
    (.ops [S 2 (.mv (.t 0)),
      S 3 (.mv (.t 0)),
      S 4 (.mkf (.func 78) [(.t 3)] []),
      S 5 (.nz (.t 2)),
      S 6 (.fld 14 (.t 5)),
      E (.st 1 (.t 6) (.t 4))]))))),
 [], false, false, false⟩
/- (*sibyl/ring.Ring[sibyl/api.Command]).Get -/
def d_ring_Ring_Get : DFn := ⟨2,
 .seq (.ops [S 4 (.new true [(eI 0), (eI 0), (eI 0), (eI 0), (eI 0), (eI 0), (eI 0), (eI 0), (eI 0), (eI 0), (eI 0), (.full []), (eI 0), (eB false)]),
   S 5 (.mv (xB false))])
 (.seq (.ops [S 8 (.mv (.t 0)),
   S 9 (.mv (.t 1)),
   S 10 (.call n_ring_Ring_at [(.t 8), (.t 9)]),
   S 6 (.mv (.t 10))])
 (.seq (.seq (.ops [S 11 (.mv (.t 6)),
   S 12 (.bin .eql .ptr (.t 11) (.v .nilp))])
 (.cond (.t 12)
  (.seq (.ops [S 7 (.new true [(eI 0), (eI 0), (eI 0), (eI 0), (eI 0), (eI 0), (eI 0), (eI 0), (eI 0), (eI 0), (eI 0), (.full []), (eI 0), (eB false)])])
  (.seq (.ops [S 13 (.ld true 14 (.t 7)),
    E (.st 14 (.t 4) (.t 13)),
    S 5 (.mv (xB false))])
  (.ret)))
  (.skip)))
 (.seq (.ops [S 14 (.mv (.t 6)),
   S 15 (.nz (.t 14)),
   S 16 (.fld 0 (.t 15)),
   S 17 (.ld true 14 (.t 16)),
   S 18 (.mv (.t 6)),
   S 19 (.nz (.t 18)),
   S 20 (.fld 14 (.t 19)),
   S 21 (.ld false 1 (.t 20)),
   ⟨none, .st 14 (.t 4) (.t 17), none, [(21, .ld false 1 (.t 20), none)]⟩,
   S 5 (.mv (.t 21))])
 (.ret)))),
 [.cell 4 true 14, .tmp 5], false, false, false⟩
/- (*sibyl/log.Log).Epochs -/
def d_log_Log_Epochs : DFn := ⟨1,
 .seq (.ops [S 2 (.mv (.v .nilp))])
 (.seq (.seq (.ops [S 3 (.mv (.t 0)),
   S 4 (.bin .eql .ptr (.t 3) (.v .nilp))])
 (.cond (.t 4)
  (.seq (.ops [S 2 (.mv (.v .nilp))])
  (.ret))
  (.skip)))
 (.seq (.ops [S 5 (.mv (.t 0)),
   S 6 (.nz (.t 5)),
   S 7 (.fld 0 (.t 6)),
   S 8 (.fld 8 (.t 7)),
   S 9 (.ld false 1 (.t 8)),
   S 2 (.mv (.t 9))])
 (.ret))),
 [.tmp 2], false, false, false⟩
/- (*sibyl/log.Log).Collect$1 -/
def d_log_Log_Collect_1 : DFn := ⟨3,
 .seq (.ops [S 4 (.mv (xB false))])
 (.seq (.ops [S 5 (.mv (.t 0)),
   S 6 (.bin .neq .none (.t 5) (xI (-1))),
   S 7 (.mv (.t 6)),
   ⟨(some 8), .mv (.t 0), (some (7, true)), []⟩,
   ⟨(some 9), .ld false 1 (.t 1), (some (7, true)), []⟩,
   ⟨(some 10), .call n_log_Log_Low [(.t 9)], (some (7, true)), []⟩,
   ⟨(some 11), .bin .leq .none (.t 8) (.t 10), (some (7, true)), []⟩,
   ⟨(some 12), .mv (.t 11), (some (7, true)), []⟩,
   ⟨(some 13), .fld 0 (.t 2), (some (12, false)), []⟩,
   ⟨(some 14), .ld false 1 (.t 13), (some (12, false)), []⟩,
   ⟨(some 15), .bin .eql .none (.t 14) (xI 5), (some (12, false)), []⟩,
   ⟨(some 16), .pick (.t 12) (xB true) (.t 15), (some (7, true)), []⟩,
   S 17 (.pick (.t 7) (.t 16) (xB false)),
   S 4 (.mv (.t 17))])
 (.ret)),
 [.tmp 4], false, false, false⟩
/- slices.ContainsFunc[[]int,int] -/
def d_slices_ContainsFunc_73 : DFn := ⟨2,
 .seq (.ops [S 4 (.mv (xB false))])
 (.seq (.ops [S 5 (.mv (.t 0)),
   S 6 (.mv (.t 1)),
   S 7 (.call n_slices_IndexFunc_92 [(.t 5), (.t 6)]),
   S 8 (.bin .geq .none (.t 7) (xI 0)),
   S 4 (.mv (.t 8))])
 (.ret)),
 [.tmp 4], false, false, false⟩
/- (*sibyl/ring.Ring[sibyl/api.Out]).Get -/
def d_ring_Ring_Get_74 : DFn := ⟨2,
 .seq (.ops [S 4 (.new true [(.full []), (.full []), (.full []), (.full [])]),
   S 5 (.mv (xB false))])
 (.seq (.ops [S 8 (.mv (.t 0)),
   S 9 (.mv (.t 1)),
   S 10 (.call n_ring_Ring_at_93 [(.t 8), (.t 9)]),
   S 6 (.mv (.t 10))])
 (.seq (.seq (.ops [S 11 (.mv (.t 6)),
   S 12 (.bin .eql .ptr (.t 11) (.v .nilp))])
 (.cond (.t 12)
  (.seq (.ops [S 7 (.new true [(.full []), (.full []), (.full []), (.full [])])])
  (.seq (.ops [S 13 (.ld true 4 (.t 7)),
    E (.st 4 (.t 4) (.t 13)),
    S 5 (.mv (xB false))])
  (.ret)))
  (.skip)))
 (.seq (.ops [S 14 (.mv (.t 6)),
   S 15 (.nz (.t 14)),
   S 16 (.fld 0 (.t 15)),
   S 17 (.ld true 4 (.t 16)),
   S 18 (.mv (.t 6)),
   S 19 (.nz (.t 18)),
   S 20 (.fld 4 (.t 19)),
   S 21 (.ld false 1 (.t 20)),
   ⟨none, .st 4 (.t 4) (.t 17), none, [(21, .ld false 1 (.t 20), none)]⟩,
   S 5 (.mv (.t 21))])
 (.ret)))),
 [.cell 4 true 4, .tmp 5], false, false, false⟩
/- (*sibyl/ring.Ring[sibyl/api.Command]).at -/
def d_ring_Ring_at : DFn := ⟨2,
 .seq (.ops [S 4 (.mv (.v .nilp))])
 (.seq (.seq (.ops [S 5 (.mv (.t 0)),
   S 6 (.bin .eql .ptr (.t 5) (.v .nilp)),
   S 7 (.mv (.t 6)),
   ⟨(some 8), .mv (.t 1), (some (7, false)), []⟩,
   ⟨(some 9), .mv (.t 0), (some (7, false)), []⟩,
   ⟨(some 10), .nz (.t 9), (some (7, false)), []⟩,
   ⟨(some 11), .fld 1 (.t 10), (some (7, false)), []⟩,
   ⟨(some 12), .ld false 1 (.t 11), (some (7, false)), []⟩,
   ⟨(some 13), .bin .lss .none (.t 8) (.t 12), (some (7, false)), []⟩,
   S 14 (.pick (.t 7) (xB true) (.t 13)),
   S 15 (.mv (.t 14)),
   ⟨(some 16), .mv (.t 1), (some (15, false)), []⟩,
   ⟨(some 17), .mv (.t 0), (some (15, false)), []⟩,
   ⟨(some 18), .nz (.t 17), (some (15, false)), []⟩,
   ⟨(some 19), .fld 1 (.t 18), (some (15, false)), []⟩,
   ⟨(some 20), .ld false 1 (.t 19), (some (15, false)), []⟩,
   ⟨(some 21), .bin .sub .none (.t 16) (.t 20), (some (15, false)), []⟩,
   ⟨(some 22), .mv (.t 0), (some (15, false)), []⟩,
   ⟨(some 23), .nz (.t 22), (some (15, false)), []⟩,
   ⟨(some 24), .fld 0 (.t 23), (some (15, false)), []⟩,
   ⟨(some 25), .ld false 1 (.t 24), (some (15, false)), []⟩,
   ⟨(some 26), .len 0 (.t 25), (some (15, false)), []⟩,
   ⟨(some 27), .bin .geq .none (.t 21) (.t 26), (some (15, false)), []⟩,
   S 28 (.pick (.t 15) (xB true) (.t 27))])
 (.cond (.t 28)
  (.seq (.ops [S 4 (.mv (.v .nilp))])
  (.ret))
  (.skip)))
 (.seq (.ops [S 29 (.mv (.t 0)),
   S 30 (.nz (.t 29)),
   S 31 (.fld 0 (.t 30)),
   S 32 (.ld false 1 (.t 31)),
   S 33 (.mv (.t 1)),
   S 34 (.mv (.t 0)),
   S 35 (.nz (.t 34)),
   S 36 (.fld 0 (.t 35)),
   S 37 (.ld false 1 (.t 36)),
   S 38 (.len 0 (.t 37)),
   S 39 (.bin .rem .none (.t 33) (.t 38)),
   S 40 (.ixa 15 (.t 32) (.t 39)),
   S 4 (.mv (.t 40))])
 (.ret))),
 [.tmp 4], false, false, false⟩
/- slices.IndexFunc[[]int,int] -/
def d_slices_IndexFunc_92 : DFn := ⟨2,
 .seq (.ops [S 4 (.mv (xI 0))])
 (.seq (.seq (.ops [S 6 (.mv (.t 0)),
   S 7 (.len 0 (.t 6)),
   S 8 (.mv (xI 0))])
 (.block 0 (.loop [0, 1, 7, 8] (.seq (.ops [S 9 (.bin .lss .none (.t 8) (.t 7))])
   (.seq (.cond (.t 9)
    (.skip)
    (.exit 0))
   (.seq (.block 1 (.seq (.ops [S 10 (.mv (.t 8)),
      S 5 (.mv (.t 10))])
    (.seq (.ops [S 11 (.mv (.t 1)),
      S 12 (.mv (.t 0)),
      S 13 (.mv (.t 5)),
      S 14 (.ixa 1 (.t 12) (.t 13)),
      S 15 (.ld false 1 (.t 14)),
      S 16 (.callv (.t 11) [(.t 15)])])
    (.cond (.t 16)
     (.seq (.ops [S 17 (.mv (.t 5)),
       S 4 (.mv (.t 17))])
     (.ret))
     (.skip)))))
   (.ops [S 18 (.bin .add .none (.t 8) (xI 1)),
     S 8 (.mv (.t 18))])))))))
 (.seq (.ops [S 4 (.mv (xI (-1)))])
 (.ret))),
 [.tmp 4], false, false, false⟩
/- (*sibyl/ring.Ring[sibyl/api.Out]).at -/
def d_ring_Ring_at_93 : DFn := ⟨2,
 .seq (.ops [S 4 (.mv (.v .nilp))])
 (.seq (.seq (.ops [S 5 (.mv (.t 0)),
   S 6 (.bin .eql .ptr (.t 5) (.v .nilp)),
   S 7 (.mv (.t 6)),
   ⟨(some 8), .mv (.t 1), (some (7, false)), []⟩,
   ⟨(some 9), .mv (.t 0), (some (7, false)), []⟩,
   ⟨(some 10), .nz (.t 9), (some (7, false)), []⟩,
   ⟨(some 11), .fld 1 (.t 10), (some (7, false)), []⟩,
   ⟨(some 12), .ld false 1 (.t 11), (some (7, false)), []⟩,
   ⟨(some 13), .bin .lss .none (.t 8) (.t 12), (some (7, false)), []⟩,
   S 14 (.pick (.t 7) (xB true) (.t 13)),
   S 15 (.mv (.t 14)),
   ⟨(some 16), .mv (.t 1), (some (15, false)), []⟩,
   ⟨(some 17), .mv (.t 0), (some (15, false)), []⟩,
   ⟨(some 18), .nz (.t 17), (some (15, false)), []⟩,
   ⟨(some 19), .fld 1 (.t 18), (some (15, false)), []⟩,
   ⟨(some 20), .ld false 1 (.t 19), (some (15, false)), []⟩,
   ⟨(some 21), .bin .sub .none (.t 16) (.t 20), (some (15, false)), []⟩,
   ⟨(some 22), .mv (.t 0), (some (15, false)), []⟩,
   ⟨(some 23), .nz (.t 22), (some (15, false)), []⟩,
   ⟨(some 24), .fld 0 (.t 23), (some (15, false)), []⟩,
   ⟨(some 25), .ld false 1 (.t 24), (some (15, false)), []⟩,
   ⟨(some 26), .len 0 (.t 25), (some (15, false)), []⟩,
   ⟨(some 27), .bin .geq .none (.t 21) (.t 26), (some (15, false)), []⟩,
   S 28 (.pick (.t 15) (xB true) (.t 27))])
 (.cond (.t 28)
  (.seq (.ops [S 4 (.mv (.v .nilp))])
  (.ret))
  (.skip)))
 (.seq (.ops [S 29 (.mv (.t 0)),
   S 30 (.nz (.t 29)),
   S 31 (.fld 0 (.t 30)),
   S 32 (.ld false 1 (.t 31)),
   S 33 (.mv (.t 1)),
   S 34 (.mv (.t 0)),
   S 35 (.nz (.t 34)),
   S 36 (.fld 0 (.t 35)),
   S 37 (.ld false 1 (.t 36)),
   S 38 (.len 0 (.t 37)),
   S 39 (.bin .rem .none (.t 33) (.t 38)),
   S 40 (.ixa 5 (.t 32) (.t 39)),
   S 4 (.mv (.t 40))])
 (.ret))),
 [.tmp 4], false, false, false⟩

def progList : List (Nat × DFn) := [(n_sibyllaw23_EngineNil, d_sibyllaw23_EngineNil), (n_sibylref23_Rest, d_sibylref23_Rest), (n_sibylref19_Right, d_sibylref19_Right), (n_engine_New, d_engine_New), (n_engine_Engine_Step, d_engine_Engine_Step), (n_engine_Engine_Tasks, d_engine_Engine_Tasks), (n_engine_Engine_Steps, d_engine_Engine_Steps), (n_engine_Engine_Round, d_engine_Engine_Round), (n_engine_Engine_Ended, d_engine_Engine_Ended), (n_engine_Engine_Open, d_engine_Engine_Open), (n_engine_Engine_Quiet, d_engine_Engine_Quiet), (n_engine_Engine_Log, d_engine_Engine_Log), (n_engine_Engine_Worker, d_engine_Engine_Worker), (n_engine_Engine_Merger, d_engine_Engine_Merger), (n_sibylref23_Spec_Config, d_sibylref23_Spec_Config), (n_sibyllaw23_awake, d_sibyllaw23_awake), (n_log_New, d_log_New), (n_merger_New, d_merger_New), (n_slices_Clone, d_slices_Clone), (n_engine_user_step, d_engine_user_step), (n_worker_New, d_worker_New), (n_worker_Worker_Step, d_worker_Worker_Step), (n_merger_Merger_Step, d_merger_Merger_Step), (n_slices_Clone_26, d_slices_Clone_26), (n_engine_user_done, d_engine_user_done), (n_log_Log_Tail, d_log_Log_Tail), (n_engine_Engine_Quiet_1, d_engine_Engine_Quiet_1), (n_engine_Engine_Quiet_2, d_engine_Engine_Quiet_2), (n_worker_Worker_Calm, d_worker_Worker_Calm), (n_log_Log_Low, d_log_Log_Low), (n_merger_Merger_Calm, d_merger_Merger_Calm), (n_slices_ContainsFunc, d_slices_ContainsFunc), (n_slices_ContainsFunc_35, d_slices_ContainsFunc_35), (n_log_Right, d_log_Right), (n_store_New, d_store_New), (n_epoch_New, d_epoch_New), (n_ring_New, d_ring_New), (n_ring_New_40, d_ring_New_40), (n_log_Log_Config, d_log_Log_Config), (n_queue_New, d_queue_New), (n_client_Client_Step, d_client_Client_Step), (n_client_New, d_client_New), (n_client_Client_Done, d_client_Client_Done), (n_engine_Engine_end, d_engine_Engine_end), (n_shard_New, d_shard_New), (n_worker_Worker_Left, d_worker_Worker_Left), (n_worker_Worker_look, d_worker_Worker_look), (n_merger_Merger_collect, d_merger_Merger_collect), (n_client_Client_Stamp, d_client_Client_Stamp), (n_client_Client_Answer, d_client_Client_Answer), (n_ring_Ring_Low, d_ring_Ring_Low), (n_slices_IndexFunc, d_slices_IndexFunc), (n_slices_IndexFunc_55, d_slices_IndexFunc_55), (n_client_Client_look, d_client_Client_look), (n_client_Client_end, d_client_Client_end), (n_shard_within, d_shard_within), (n_log_Log_Look, d_log_Log_Look), (n_log_Log_Cursor, d_log_Log_Cursor), (n_worker_Worker_pin, d_worker_Worker_pin), (n_log_Log_Collect, d_log_Log_Collect), (n_merger_Merger_do, d_merger_Merger_do), (n_client_Client_room, d_client_Client_room), (n_ring_Ring_Get, d_ring_Ring_Get), (n_log_Log_Epochs, d_log_Log_Epochs), (n_log_Log_Collect_1, d_log_Log_Collect_1), (n_slices_ContainsFunc_73, d_slices_ContainsFunc_73), (n_ring_Ring_Get_74, d_ring_Ring_Get_74), (n_ring_Ring_at, d_ring_Ring_at), (n_slices_IndexFunc_92, d_slices_IndexFunc_92), (n_ring_Ring_at_93, d_ring_Ring_at_93)]
end Dk.N
