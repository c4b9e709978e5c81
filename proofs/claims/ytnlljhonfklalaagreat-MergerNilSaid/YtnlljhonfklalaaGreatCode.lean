/- D's code of the functions, printed by a program of mine (DPrint). -/
import Derived.Test.YtnlljhonfklalaaGreatFk4
set_option linter.unusedVariables false
set_option linter.unusedSimpArgs false
set_option linter.unusedSectionVars false
namespace Dk.M
open Go Dk
abbrev n_sibyllaw22_MergerNil : Nat := 5
abbrev n_log_New : Nat := 7
abbrev n_worker_New : Nat := 9
abbrev n_log_Log_Take : Nat := 11
abbrev n_log_Log_Fill : Nat := 12
abbrev n_worker_Worker_Step : Nat := 13
abbrev n_worker_Worker_Left : Nat := 14
abbrev n_log_Log_Cursor : Nat := 15
abbrev n_merger_New : Nat := 18
abbrev n_sibyllaw22_Spec_config : Nat := 19
abbrev n_sibyllaw22_rest : Nat := 20
abbrev n_merger_Merger_Step : Nat := 21
abbrev n_sibyllaw22_awake : Nat := 22
abbrev n_merger_Merger_Calm : Nat := 23
abbrev n_merger_Merger_Desk : Nat := 24
abbrev n_queue_Desk_Live : Nat := 25
abbrev n_log_Right : Nat := 26
abbrev n_store_New : Nat := 27
abbrev n_epoch_New : Nat := 28
abbrev n_ring_New : Nat := 29
abbrev n_ring_New_30 : Nat := 30
abbrev n_shard_New : Nat := 31
abbrev n_log_Log_Config : Nat := 32
abbrev n_log_Log_Low : Nat := 33
abbrev n_ring_Ring_Put : Nat := 34
abbrev n_worker_Worker_look : Nat := 35
abbrev n_queue_New : Nat := 36
abbrev n_merger_Merger_collect : Nat := 37
abbrev n_sibyllaw22_side : Nat := 38
abbrev n_sibyllaw22_Side_work : Nat := 39
abbrev n_log_Log_Answer : Nat := 40
abbrev n_shard_within : Nat := 41
abbrev n_ring_Ring_Low : Nat := 42
abbrev n_ring_Ring_at : Nat := 43
abbrev n_log_Log_Look : Nat := 44
abbrev n_worker_Worker_pin : Nat := 45
abbrev n_log_Log_Collect : Nat := 46
abbrev n_merger_Merger_do : Nat := 47
abbrev n_ring_Ring_Get : Nat := 48
abbrev n_log_Log_Epochs : Nat := 49
abbrev n_epoch_Epochs_Pin : Nat := 50
abbrev n_worker_Worker_apply : Nat := 51
abbrev n_log_Log_Collect_1 : Nat := 52
abbrev n_slices_ContainsFunc : Nat := 53
abbrev n_ring_Ring_Get_54 : Nat := 54
abbrev n_queue_Desk_Do : Nat := 55
abbrev n_merger_Merger_goOn : Nat := 56
abbrev n_epoch_Epochs_is : Nat := 57
abbrev n_shard_Shard_Apply : Nat := 58
abbrev n_log_Log_Store : Nat := 59
abbrev n_worker_Worker_ups : Nat := 61
abbrev n_slices_IndexFunc : Nat := 62
abbrev n_ring_Ring_at_63 : Nat := 63
abbrev n_merger_Merger_reply : Nat := 66
abbrev n_shard_Shard_register : Nat := 68
abbrev n_worker_Worker_downs : Nat := 74
abbrev n_log_Log_Reply : Nat := 78
abbrev n_merger_Merger_advance : Nat := 79
abbrev n_table_Right : Nat := 83
abbrev n_roll_Roll_Len : Nat := 84
abbrev n_roll_Roll_Add : Nat := 85
abbrev n_runs_New : Nat := 86
abbrev n_roll_Roll_Live : Nat := 90
abbrev n_worker_Worker_unpin : Nat := 94
abbrev n_ring_Ring_Drop : Nat := 99
abbrev n_ring_Ring_Drop_100 : Nat := 100
abbrev n_ring_Ring_Put_101 : Nat := 101
abbrev n_epoch_Epochs_Advance : Nat := 102
abbrev n_merger_Merger_ripe : Nat := 103
abbrev n_table_typed : Nat := 106
abbrev n_table_may : Nat := 107
abbrev n_slices_ContainsFunc_108 : Nat := 108
abbrev n_roll_Roll_all : Nat := 109
abbrev n_chain_New : Nat := 110
abbrev n_roll_Roll_Live_1 : Nat := 118
abbrev n_epoch_Epochs_Unpin : Nat := 132
abbrev n_worker_Worker_post : Nat := 133
abbrev n_ring_Ring_Low_135 : Nat := 135
abbrev n_epoch_Epochs_Advance_1 : Nat := 136
abbrev n_epoch_Epochs_Ripe : Nat := 137
abbrev n_merger_Merger_free : Nat := 138
abbrev n_slices_IndexFunc_143 : Nat := 143
abbrev n_log_Log_Post : Nat := 167
abbrev n_worker_Worker_advance : Nat := 168
abbrev n_slices_DeleteFunc : Nat := 169
abbrev n_worker_Worker_ripe : Nat := 197
abbrev n_slices_IndexFunc_198 : Nat := 198
abbrev n_worker_Worker_free : Nat := 211
/- sibyl/sibyllaw22.MergerNil -/
def d_sibyllaw22_MergerNil : DFn := ⟨1,
 .seq (.ops [S 2 (.mv (xB false))])
 (.seq (.ops [S 3 (.mv (.v .nilp))])
 (.seq (.ops [S 6 (.build [(.full []), (eI 0), (eI 0), (eI 0), (.full []), (.full [])] []),
   S 7 (.call n_sibyllaw22_Spec_config [(.t 6)]),
   S 8 (.call n_log_New [(.t 7)]),
   S 9 (.call n_merger_New [(.t 8)]),
   S 4 (.mv (.t 9))])
 (.seq (.seq (.ops [S 5 (.mv (xI 0))])
 (.block 0 (.loop [0, 3, 4, 5] (.seq (.seq (.ops [S 10 (.mv (.t 5)),
     S 11 (.mv (.t 0)),
     S 12 (.call n_sibyllaw22_rest [(.t 11), (xI 10)]),
     S 13 (.bin .lss .none (.t 10) (.t 12))])
   (.cond (.t 13)
    (.skip)
    (.exit 0)))
   (.seq (.block 1 (.seq (.ops [S 16 (.mv (.t 4)),
      S 17 (.call n_merger_Merger_Step [(.t 16)]),
      S 18 (.mv (.t 17)),
      ⟨(some 19), .mv (.t 3), (some (18, false)), []⟩,
      ⟨(some 20), .call n_merger_Merger_Step [(.t 19)], (some (18, false)), []⟩,
      S 21 (.pick (.t 18) (xB true) (.t 20))])
    (.cond (.t 21)
     (.seq (.ops [S 2 (.mv (xB false))])
     (.ret))
     (.skip))))
   (.ops [S 14 (.mv (.t 5)),
     S 15 (.bin .add .none (.t 14) (xI 1)),
     S 5 (.mv (.t 15))]))))))
 (.seq (.ops [S 22 (.call n_sibyllaw22_awake []),
   S 23 (.mv (.t 22)),
   ⟨(some 24), .mv (.t 3), (some (23, true)), []⟩,
   ⟨(some 25), .call n_merger_Merger_Calm [(.t 24)], (some (23, true)), []⟩,
   S 26 (.pick (.t 23) (.t 25) (xB false)),
   S 27 (.mv (.t 26)),
   ⟨(some 28), .mv (.t 3), (some (27, true)), []⟩,
   ⟨(some 29), .call n_merger_Merger_Desk [(.t 28)], (some (27, true)), []⟩,
   ⟨(some 30), .bin .eql .ptr (.t 29) (.v .nilp), (some (27, true)), []⟩,
   S 31 (.pick (.t 27) (.t 30) (xB false)),
   S 32 (.mv (.t 31)),
   ⟨(some 33), .call n_merger_New [(.v .nilp)], (some (32, true)), []⟩,
   ⟨(some 34), .bin .eql .ptr (.t 33) (.v .nilp), (some (32, true)), []⟩,
   S 35 (.pick (.t 32) (.t 34) (xB false)),
   S 36 (.mv (.t 35)),
   ⟨(some 37), .mv (.t 4), (some (36, true)), []⟩,
   ⟨(some 38), .call n_merger_Merger_Calm [(.t 37)], (some (36, true)), []⟩,
   S 39 (.pick (.t 36) (.t 38) (xB false)),
   S 40 (.mv (.t 39)),
   ⟨(some 41), .mv (.t 4), (some (40, true)), []⟩,
   ⟨(some 42), .call n_merger_Merger_Desk [(.t 41)], (some (40, true)), []⟩,
   ⟨(some 43), .call n_queue_Desk_Live [(.t 42)], (some (40, true)), []⟩,
   ⟨(some 44), .bin .eql .none (.t 43) (xI 0), (some (40, true)), []⟩,
   S 45 (.pick (.t 40) (.t 44) (xB false)),
   S 2 (.mv (.t 45))])
 (.ret))))),
 [.tmp 2], false, true, false⟩
/- sibyl/log.New -/
def d_log_New : DFn := ⟨1,
 .seq (.ops [S 1 (.box true 7 (.t 0)),
   S 2 (.mv (.v .nilp))])
 (.seq (.seq (.ops [S 4 (.ld true 7 (.t 1)),
   S 5 (.call n_log_Right [(.t 4)]),
   S 6 (.un .not (.t 5))])
 (.cond (.t 6)
  (.seq (.ops [S 2 (.mv (.v .nilp))])
  (.ret))
  (.skip)))
 (.seq (.ops [S 7 (.ld true 7 (.t 1)),
   S 8 (.fld 2 (.t 1)),
   S 9 (.ld false 1 (.t 8)),
   S 11 (.fld 0 (.t 1)),
   S 12 (.ld false 1 (.t 11)),
   S 13 (.bin .add .none (.t 12) (xI 1)),
   S 16 (.fld 1 (.t 1)),
   S 17 (.ld false 1 (.t 16)),
   S 19 (.fld 0 (.t 1)),
   S 20 (.ld false 1 (.t 19)),
   S 21 (.mks 1 false 8 [(eI 0)] (.t 20) (.t 20)),
   S 22 (.mkmap),
   ⟨(some 10), .call n_store_New [(.t 9)], none, [(20, .ld false 1 (.t 19), none), (17, .ld false 1 (.t 16), none), (12, .ld false 1 (.t 11), none), (7, .ld true 7 (.t 1), none)]⟩,
   ⟨(some 14), .call n_epoch_New [(.t 13)], none, [(20, .ld false 1 (.t 19), none), (17, .ld false 1 (.t 16), none), (7, .ld true 7 (.t 1), none)]⟩,
   S 15 (.build [(eI 0), (eI 0), (eI 0), (eI 0), (eI 0), (eI 0), (eI 0), .nilp, .nilp] [(0, 7, (.t 7)), (7, 1, (.t 10)), (8, 1, (.t 14))]),
   ⟨(some 18), .call n_ring_New [(.t 17)], none, [(20, .ld false 1 (.t 19), none), (7, .ld true 7 (.t 1), none)]⟩,
   S 23 (.build [(eI 0), (eI 0), (eI 0), (eI 0), (eI 0), (eI 0), (eI 0), .nilp, .nilp, (eI 0), (eB false), .nilp, (.full []), (.full []), .nilmap] [(0, 9, (.t 15)), (11, 1, (.t 18)), (12, 1, (.t 21)), (14, 1, (.t 22))]),
   S 24 (.box true 15 (.t 23)),
   S 3 (.mv (.t 24))])
 (.seq (.seq (.ops [S 25 (.fld 0 (.t 1)),
   S 26 (.ld false 1 (.t 25)),
   S 27 (.mv (xI 0))])
 (.block 0 (.loop [1, 3, 26, 27] (.seq (.ops [S 28 (.bin .lss .none (.t 27) (.t 26))])
   (.seq (.cond (.t 28)
    (.skip)
    (.exit 0))
   (.seq (.block 1 (.ops [S 29 (.mv (.t 3)),
      S 30 (.mv (.t 3)),
      S 31 (.nz (.t 30)),
      S 32 (.fld 13 (.t 31)),
      S 33 (.ld false 1 (.t 32)),
      S 34 (.fld 1 (.t 1)),
      S 35 (.ld false 1 (.t 34)),
      ⟨(some 36), .call n_ring_New_30 [(.t 35)], none, [(33, .ld false 1 (.t 32), none)]⟩,
      S 37 (.lit 1 false [[.nilp]] [(0, (.t 36))]),
      S 38 (.app 1 false 8 (.t 33) (.t 37)),
      S 39 (.nz (.t 29)),
      S 40 (.fld 13 (.t 39)),
      E (.st 1 (.t 40) (.t 38))]))
   (.ops [S 41 (.bin .add .none (.t 27) (xI 1)),
     S 27 (.mv (.t 41))])))))))
 (.seq (.ops [S 42 (.mv (.t 3)),
   S 2 (.mv (.t 42))])
 (.ret))))),
 [.tmp 2], false, false, false⟩
/- sibyl/worker.New -/
def d_worker_New : DFn := ⟨2,
 .seq (.ops [S 4 (.mv (.v .nilp))])
 (.seq (.seq (.ops [S 6 (.mv (.t 0)),
   S 7 (.bin .eql .ptr (.t 6) (.v .nilp))])
 (.cond (.t 7)
  (.seq (.ops [S 4 (.mv (.v .nilp))])
  (.ret))
  (.skip)))
 (.seq (.ops [S 8 (.mv (.t 0)),
   S 9 (.call n_log_Log_Config [(.t 8)]),
   S 10 (.mv (.t 1)),
   S 11 (.call n_shard_New [(.t 9), (.t 10)]),
   S 5 (.mv (.t 11))])
 (.seq (.seq (.ops [S 12 (.mv (.t 5)),
   S 13 (.bin .eql .ptr (.t 12) (.v .nilp))])
 (.cond (.t 13)
  (.seq (.ops [S 4 (.mv (.v .nilp))])
  (.ret))
  (.skip)))
 (.seq (.ops [S 14 (.mv (.t 0)),
   S 15 (.mv (.t 1)),
   S 16 (.mv (.t 5)),
   S 17 (.build [.nilp, (eI 0), .nilp, .nilf, (eI 0), (eI 0), (eI 0), (eI 0), (eI 0), (eI 0), (eI 0), (eI 0), (eI 0), (eI 0), (eI 0), (.full []), (eI 0), (eB false), (.full []), (.full []), (.full []), (.full []), (.full []), (eB false)] [(0, 1, (.t 14)), (1, 1, (.t 15)), (2, 1, (.t 16))]),
   S 18 (.box true 24 (.t 17)),
   S 4 (.mv (.t 18))])
 (.ret))))),
 [.tmp 4], false, false, false⟩
/- (*sibyl/log.Log).Take -/
def d_log_Log_Take : DFn := ⟨3,
 .seq (.ops [S 6 (.mv (xB false))])
 (.seq (.seq (.ops [S 7 (.mv (.t 0)),
   S 8 (.bin .eql .ptr (.t 7) (.v .nilp)),
   S 9 (.mv (.t 8)),
   ⟨(some 10), .mv (.t 1), (some (9, false)), []⟩,
   ⟨(some 11), .mv (.t 0), (some (9, false)), []⟩,
   ⟨(some 12), .nz (.t 11), (some (9, false)), []⟩,
   ⟨(some 13), .fld 9 (.t 12), (some (9, false)), []⟩,
   ⟨(some 14), .ld false 1 (.t 13), (some (9, false)), []⟩,
   ⟨(some 15), .bin .neq .none (.t 10) (.t 14), (some (9, false)), []⟩,
   S 16 (.pick (.t 9) (xB true) (.t 15)),
   S 17 (.mv (.t 16)),
   ⟨(some 18), .mv (.t 1), (some (17, false)), []⟩,
   ⟨(some 19), .mv (.t 0), (some (17, false)), []⟩,
   ⟨(some 20), .nz (.t 19), (some (17, false)), []⟩,
   ⟨(some 21), .fld 0 (.t 20), (some (17, false)), []⟩,
   ⟨(some 22), .fld 0 (.t 21), (some (17, false)), []⟩,
   ⟨(some 23), .fld 6 (.t 22), (some (17, false)), []⟩,
   ⟨(some 24), .ld false 1 (.t 23), (some (17, false)), []⟩,
   ⟨(some 25), .bin .eql .none (.t 18) (.t 24), (some (17, false)), []⟩,
   S 26 (.pick (.t 17) (xB true) (.t 25)),
   S 27 (.mv (.t 26)),
   ⟨(some 28), .mv (.t 1), (some (27, false)), []⟩,
   ⟨(some 29), .mv (.t 0), (some (27, false)), []⟩,
   ⟨(some 32), .mv (.t 0), (some (27, false)), []⟩,
   ⟨(some 33), .nz (.t 32), (some (27, false)), []⟩,
   ⟨(some 34), .fld 0 (.t 33), (some (27, false)), []⟩,
   ⟨(some 35), .fld 0 (.t 34), (some (27, false)), []⟩,
   ⟨(some 36), .fld 1 (.t 35), (some (27, false)), []⟩,
   ⟨(some 37), .ld false 1 (.t 36), (some (27, false)), []⟩,
   ⟨(some 30), .call n_log_Log_Low [(.t 29)], (some (27, false)), [(37, .ld false 1 (.t 36), (some (27, false)))]⟩,
   ⟨(some 31), .bin .sub .none (.t 28) (.t 30), (some (27, false)), []⟩,
   ⟨(some 38), .bin .geq .none (.t 31) (.t 37), (some (27, false)), []⟩,
   S 39 (.pick (.t 27) (xB true) (.t 38)),
   S 40 (.mv (.t 39)),
   ⟨(some 41), .mv (.t 2), (some (40, false)), []⟩,
   ⟨(some 42), .mv (.t 41), (some (40, false)), []⟩,
   ⟨(some 43), .mv (.t 0), (some (42, true)), []⟩,
   ⟨(some 44), .nz (.t 43), (some (42, true)), []⟩,
   ⟨(some 45), .fld 10 (.t 44), (some (42, true)), []⟩,
   ⟨(some 46), .ld false 1 (.t 45), (some (42, true)), []⟩,
   ⟨(some 47), .pick (.t 42) (.t 46) (xB false), (some (40, false)), []⟩,
   S 48 (.pick (.t 40) (xB true) (.t 47))])
 (.cond (.t 48)
  (.seq (.ops [S 6 (.mv (xB false))])
  (.ret))
  (.skip)))
 (.seq (.ops [S 49 (.mv (.t 0)),
   S 50 (.nz (.t 49)),
   S 51 (.fld 9 (.t 50)),
   S 52 (.ld false 1 (.t 51)),
   S 53 (.bin .add .none (.t 52) (xI 1)),
   S 54 (.nz (.t 49)),
   S 55 (.fld 9 (.t 54)),
   E (.st 1 (.t 55) (.t 53))])
 (.seq (.ops [S 56 (.mv (.t 0)),
   S 57 (.mv (.t 0)),
   S 58 (.nz (.t 57)),
   S 59 (.fld 10 (.t 58)),
   S 60 (.ld false 1 (.t 59)),
   S 61 (.mv (.t 60)),
   ⟨(some 62), .mv (.t 2), (some (61, false)), []⟩,
   S 63 (.pick (.t 61) (xB true) (.t 62)),
   S 64 (.nz (.t 56)),
   S 65 (.fld 10 (.t 64)),
   E (.st 1 (.t 65) (.t 63))])
 (.seq (.ops [S 6 (.mv (xB true))])
 (.ret))))),
 [.tmp 6], false, false, false⟩
/- (*sibyl/log.Log).Fill -/
def d_log_Log_Fill : DFn := ⟨3,
 .seq (.ops [S 5 (.box true 14 (.t 2)),
   S 6 (.mv (xB false))])
 (.seq (.ops [S 7 (.mv (.t 0)),
   S 8 (.bin .neq .ptr (.t 7) (.v .nilp)),
   S 9 (.mv (.t 8)),
   ⟨(some 10), .mv (.t 1), (some (9, true)), []⟩,
   ⟨(some 11), .mv (.t 0), (some (9, true)), []⟩,
   ⟨(some 12), .nz (.t 11), (some (9, true)), []⟩,
   ⟨(some 13), .fld 9 (.t 12), (some (9, true)), []⟩,
   ⟨(some 14), .ld false 1 (.t 13), (some (9, true)), []⟩,
   ⟨(some 15), .bin .lss .none (.t 10) (.t 14), (some (9, true)), []⟩,
   S 16 (.pick (.t 9) (.t 15) (xB false)),
   S 17 (.mv (.t 16)),
   ⟨(some 18), .mv (.t 0), (some (17, true)), []⟩,
   ⟨(some 19), .nz (.t 18), (some (17, true)), []⟩,
   ⟨(some 20), .fld 11 (.t 19), (some (17, true)), []⟩,
   ⟨(some 21), .ld false 1 (.t 20), (some (17, true)), []⟩,
   ⟨(some 22), .mv (.t 1), (some (17, true)), []⟩,
   ⟨(some 23), .ld true 14 (.t 5), (some (17, true)), []⟩,
   ⟨(some 24), .call n_ring_Ring_Put [(.t 21), (.t 22), (.t 23)], (some (17, true)), []⟩,
   S 25 (.pick (.t 17) (.t 24) (xB false)),
   S 6 (.mv (.t 25))])
 (.ret)),
 [.tmp 6], false, false, false⟩
/- (*sibyl/worker.Worker).Step -/
def d_worker_Worker_Step : DFn := ⟨1,
 .seq (.ops [S 2 (.mv (xB false))])
 (.seq (.block 0 (.seq (.ops [S 4 (.mv (.t 0)),
    S 5 (.call n_worker_Worker_Left [(.t 4)]),
    S 3 (.mv (.t 5))])
  (.cond (.t 3)
   (.seq (.ops [S 2 (.mv (xB false))])
   (.ret))
   (.seq (.ops [S 7 (.mv (.t 0)),
     S 8 (.nz (.t 7)),
     S 9 (.fld 3 (.t 8)),
     S 10 (.ld false 1 (.t 9)),
     S 11 (.bin .eql .fn (.t 10) (.v .nilf)),
     S 6 (.mv (.t 11))])
   (.cond (.t 6)
    (.seq (.ops [S 12 (.mv (.t 0)),
      S 13 (.call n_worker_Worker_look [(.t 12)]),
      S 2 (.mv (.t 13))])
    (.ret))
    (.skip))))))
 (.seq (.ops [S 14 (.mv (.t 0)),
   S 15 (.nz (.t 14)),
   S 16 (.fld 3 (.t 15)),
   S 17 (.ld false 1 (.t 16)),
   S 18 (.callv (.t 17) [])])
 (.seq (.ops [S 2 (.mv (xB true))])
 (.ret)))),
 [.tmp 2], false, false, false⟩
/- (*sibyl/worker.Worker).Left -/
def d_worker_Worker_Left : DFn := ⟨1,
 .seq (.ops [S 2 (.mv (xB false))])
 (.seq (.ops [S 3 (.mv (.t 0)),
   S 4 (.bin .eql .ptr (.t 3) (.v .nilp)),
   S 5 (.mv (.t 4)),
   ⟨(some 6), .mv (.t 0), (some (5, false)), []⟩,
   ⟨(some 7), .nz (.t 6), (some (5, false)), []⟩,
   ⟨(some 8), .fld 23 (.t 7), (some (5, false)), []⟩,
   ⟨(some 9), .ld false 1 (.t 8), (some (5, false)), []⟩,
   S 10 (.pick (.t 5) (xB true) (.t 9)),
   S 2 (.mv (.t 10))])
 (.ret)),
 [.tmp 2], false, false, false⟩
/- (*sibyl/log.Log).Cursor -/
def d_log_Log_Cursor : DFn := ⟨2,
 .seq (.ops [S 4 (.mv (xI 0))])
 (.seq (.seq (.ops [S 5 (.mv (.t 0)),
   S 6 (.bin .eql .ptr (.t 5) (.v .nilp)),
   S 7 (.mv (.t 6)),
   ⟨(some 8), .mv (.t 1), (some (7, false)), []⟩,
   ⟨(some 9), .bin .lss .none (.t 8) (xI 0), (some (7, false)), []⟩,
   S 10 (.pick (.t 7) (xB true) (.t 9)),
   S 11 (.mv (.t 10)),
   ⟨(some 12), .mv (.t 1), (some (11, false)), []⟩,
   ⟨(some 13), .mv (.t 0), (some (11, false)), []⟩,
   ⟨(some 14), .nz (.t 13), (some (11, false)), []⟩,
   ⟨(some 15), .fld 12 (.t 14), (some (11, false)), []⟩,
   ⟨(some 16), .ld false 1 (.t 15), (some (11, false)), []⟩,
   ⟨(some 17), .len 0 (.t 16), (some (11, false)), []⟩,
   ⟨(some 18), .bin .geq .none (.t 12) (.t 17), (some (11, false)), []⟩,
   S 19 (.pick (.t 11) (xB true) (.t 18))])
 (.cond (.t 19)
  (.seq (.ops [S 4 (.mv (xI (-1)))])
  (.ret))
  (.skip)))
 (.seq (.ops [S 20 (.mv (.t 0)),
   S 21 (.nz (.t 20)),
   S 22 (.fld 12 (.t 21)),
   S 23 (.ld false 1 (.t 22)),
   S 24 (.mv (.t 1)),
   S 25 (.ixa 1 (.t 23) (.t 24)),
   S 26 (.ld false 1 (.t 25)),
   S 4 (.mv (.t 26))])
 (.ret))),
 [.tmp 4], false, false, false⟩
/- sibyl/merger.New -/
def d_merger_New : DFn := ⟨1,
 .seq (.ops [S 2 (.mv (.v .nilp))])
 (.seq (.seq (.ops [S 3 (.mv (.t 0)),
   S 4 (.bin .eql .ptr (.t 3) (.v .nilp))])
 (.cond (.t 4)
  (.seq (.ops [S 2 (.mv (.v .nilp))])
  (.ret))
  (.skip)))
 (.seq (.ops [S 5 (.mv (.t 0)),
   S 6 (.mv (.t 0)),
   S 7 (.call n_log_Log_Config [(.t 6)]),
   S 8 (.fget 0 1 false (.t 7)),
   S 9 (.mv (.t 0)),
   S 10 (.call n_log_Log_Config [(.t 9)]),
   S 11 (.call n_queue_New [(.t 10)]),
   S 12 (.build [.nilp, (eI 0), .nilp, .nilf, (.full []), (eI 0), (eI 0), (.full []), (.full [])] [(0, 1, (.t 5)), (1, 1, (.t 8)), (2, 1, (.t 11))]),
   S 13 (.box true 9 (.t 12)),
   S 2 (.mv (.t 13))])
 (.ret))),
 [.tmp 2], false, false, false⟩
/- (sibyl/sibyllaw22.Spec).config -/
def d_sibyllaw22_Spec_config : DFn := ⟨1,
 .seq (.ops [S 1 (.box true 6 (.t 0)),
   S 2 (.new true [(eI 0), (eI 0), (eI 0), (eI 0), (eI 0), (eI 0), (eI 0)])])
 (.seq (.ops [S 3 (.fld 1 (.t 1)),
   S 4 (.ld false 1 (.t 3)),
   S 7 (.fld 3 (.t 1)),
   S 8 (.ld false 1 (.t 7)),
   S 11 (.fld 2 (.t 1)),
   S 12 (.ld false 1 (.t 11)),
   ⟨(some 5), .call n_sibyllaw22_rest [(.t 4), (xI 3)], none, [(12, .ld false 1 (.t 11), none), (8, .ld false 1 (.t 7), none)]⟩,
   S 6 (.bin .add .none (xI 1) (.t 5)),
   ⟨(some 9), .call n_sibyllaw22_rest [(.t 8), (xI 12)], none, [(12, .ld false 1 (.t 11), none)]⟩,
   S 10 (.bin .add .none (xI 1) (.t 9)),
   S 13 (.call n_sibyllaw22_rest [(.t 12), (xI 5)]),
   S 14 (.bin .add .none (xI 1) (.t 13)),
   S 15 (.build [(eI 0), (eI 0), (eI 0), (eI 0), (eI 0), (eI 0), (eI 0)] [(0, 1, (.t 6)), (1, 1, (xI 20)), (2, 1, (xI 20)), (3, 1, (xI 2)), (4, 1, (.t 10)), (5, 1, (.t 14)), (6, 1, (xI 99))]),
   E (.st 7 (.t 2) (.t 15))])
 (.ret)),
 [.cell 2 true 7], false, false, false⟩
/- sibyl/sibyllaw22.rest -/
def d_sibyllaw22_rest : DFn := ⟨2,
 .seq (.ops [S 4 (.mv (xI 0))])
 (.seq (.ops [S 5 (.mv (.t 0)),
   S 6 (.mv (.t 1)),
   S 7 (.bin .rem .none (.t 5) (.t 6)),
   S 8 (.mv (.t 1)),
   S 9 (.bin .add .none (.t 7) (.t 8)),
   S 10 (.mv (.t 1)),
   S 11 (.bin .rem .none (.t 9) (.t 10)),
   S 4 (.mv (.t 11))])
 (.ret)),
 [.tmp 4], false, true, false⟩
/- (*sibyl/merger.Merger).Step -/
def d_merger_Merger_Step : DFn := ⟨1,
 .seq (.ops [S 2 (.mv (xB false))])
 (.seq (.block 0 (.seq (.ops [S 4 (.mv (.t 0)),
    S 5 (.bin .eql .ptr (.t 4) (.v .nilp)),
    S 3 (.mv (.t 5))])
  (.cond (.t 3)
   (.seq (.ops [S 2 (.mv (xB false))])
   (.ret))
   (.seq (.ops [S 7 (.mv (.t 0)),
     S 8 (.nz (.t 7)),
     S 9 (.fld 3 (.t 8)),
     S 10 (.ld false 1 (.t 9)),
     S 11 (.bin .eql .fn (.t 10) (.v .nilf)),
     S 6 (.mv (.t 11))])
   (.cond (.t 6)
    (.seq (.ops [S 12 (.mv (.t 0)),
      S 13 (.call n_merger_Merger_collect [(.t 12)]),
      S 2 (.mv (.t 13))])
    (.ret))
    (.skip))))))
 (.seq (.ops [S 14 (.mv (.t 0)),
   S 15 (.nz (.t 14)),
   S 16 (.fld 3 (.t 15)),
   S 17 (.ld false 1 (.t 16)),
   S 18 (.callv (.t 17) [])])
 (.seq (.ops [S 2 (.mv (xB true))])
 (.ret)))),
 [.tmp 2], false, false, false⟩
/- sibyl/sibyllaw22.awake -/
def d_sibyllaw22_awake : DFn := ⟨0,
 .seq (.ops [S 0 (.mv (xB false))])
 (.seq (.ops [S 6 (.build [(.full []), (eI 0), (eI 0), (eI 0), (.full []), (.full [])] []),
   S 7 (.call n_sibyllaw22_side [(.t 6)]),
   S 1 (.mv (.t 7))])
 (.seq (.ops [S 8 (.mv (.t 1)),
   S 9 (.nz (.t 8)),
   S 10 (.fld 0 (.t 9)),
   S 11 (.ld false 1 (.t 10)),
   S 12 (.call n_merger_New [(.t 11)]),
   S 2 (.mv (.t 12))])
 (.seq (.ops [S 13 (.mv (.t 1)),
   S 14 (.nz (.t 13)),
   S 15 (.fld 0 (.t 14)),
   S 16 (.ld false 1 (.t 15)),
   S 17 (.call n_log_Log_Take [(.t 16), (xI 0), (xB false)])])
 (.seq (.ops [S 18 (.mv (.t 1)),
   S 19 (.nz (.t 18)),
   S 20 (.fld 0 (.t 19)),
   S 21 (.ld false 1 (.t 20)),
   S 22 (.build [(eI 0), (eB false), (.full []), (.full [])] []),
   S 23 (.lit 4 true [[(eI 0), (eB false), (.full []), (.full [])]] [(0, (.t 22))]),
   S 24 (.build [(.full []), (eI 0), (eB false)] [(0, 1, (.t 23)), (1, 1, (xI 1))]),
   S 25 (.build [(eI 0), (eI 0), (eI 0), (eI 0), (eI 0), (eI 0), (eI 0), (eI 0), (eI 0), (eI 0), (eI 0), (.full []), (eI 0), (eB false)] [(0, 1, (xI 2)), (11, 3, (.t 24))]),
   S 26 (.call n_log_Log_Fill [(.t 21), (xI 0), (.t 25)])])
 (.seq (.ops [S 27 (.mv (.t 1)),
   S 28 (.call n_sibyllaw22_Side_work [(.t 27)])])
 (.seq (.ops [S 3 (.mv (xI 0))])
 (.seq (.block 0 (.loop [1, 2, 3] (.seq (.seq (.ops [S 29 (.mv (.t 3)),
     S 30 (.bin .lss .none (.t 29) (xI 20)),
     S 31 (.mv (.t 30)),
     ⟨(some 32), .mv (.t 2), (some (31, true)), []⟩,
     ⟨(some 33), .call n_merger_Merger_Step [(.t 32)], (some (31, true)), []⟩,
     S 34 (.pick (.t 31) (.t 33) (xB false))])
   (.cond (.t 34)
    (.skip)
    (.exit 0)))
   (.block 1 (.ops [S 35 (.mv (.t 3)),
      S 36 (.bin .add .none (.t 35) (xI 1)),
      S 3 (.mv (.t 36))])))))
 (.seq (.ops [S 38 (.mv (.t 1)),
   S 39 (.nz (.t 38)),
   S 40 (.fld 0 (.t 39)),
   S 41 (.ld false 1 (.t 40)),
   S 42 (.call n_log_Log_Answer [(.t 41), (xI 0)]),
   S 37 (.mv (.t 42)),
   S 43 (.ext (.t 37) 0),
   S 44 (.ext (.t 37) 1),
   S 4 (.new true [(eI 0), (eI 0), (.full [])]),
   E (.st 3 (.t 4) (.t 43)),
   S 5 (.mv (.t 44))])
 (.seq (.ops [S 45 (.mv (.t 3)),
   S 46 (.bin .eql .none (.t 45) (xI 5)),
   S 47 (.mv (.t 46)),
   ⟨(some 48), .mv (.t 5), (some (47, true)), []⟩,
   S 49 (.pick (.t 47) (.t 48) (xB false)),
   S 50 (.mv (.t 49)),
   ⟨(some 51), .fld 0 (.t 4), (some (50, true)), []⟩,
   ⟨(some 52), .ld false 1 (.t 51), (some (50, true)), []⟩,
   ⟨(some 53), .bin .eql .none (.t 52) (xI 0), (some (50, true)), []⟩,
   S 54 (.pick (.t 50) (.t 53) (xB false)),
   S 55 (.mv (.t 54)),
   ⟨(some 56), .fld 1 (.t 4), (some (55, true)), []⟩,
   ⟨(some 57), .ld false 1 (.t 56), (some (55, true)), []⟩,
   ⟨(some 58), .bin .eql .none (.t 57) (xI 0), (some (55, true)), []⟩,
   S 59 (.pick (.t 55) (.t 58) (xB false)),
   S 60 (.mv (.t 59)),
   ⟨(some 61), .mv (.t 2), (some (60, true)), []⟩,
   ⟨(some 62), .call n_merger_Merger_Calm [(.t 61)], (some (60, true)), []⟩,
   S 63 (.pick (.t 60) (.t 62) (xB false)),
   S 64 (.mv (.t 63)),
   ⟨(some 65), .mv (.t 1), (some (64, true)), []⟩,
   ⟨(some 66), .nz (.t 65), (some (64, true)), []⟩,
   ⟨(some 67), .fld 0 (.t 66), (some (64, true)), []⟩,
   ⟨(some 68), .ld false 1 (.t 67), (some (64, true)), []⟩,
   ⟨(some 69), .call n_log_Log_Low [(.t 68)], (some (64, true)), []⟩,
   ⟨(some 70), .bin .eql .none (.t 69) (xI 1), (some (64, true)), []⟩,
   S 71 (.pick (.t 64) (.t 70) (xB false)),
   S 0 (.mv (.t 71))])
 (.ret)))))))))),
 [.tmp 0], false, true, false⟩
/- (*sibyl/merger.Merger).Calm -/
def d_merger_Merger_Calm : DFn := ⟨1,
 .seq (.ops [S 2 (.mv (xB false))])
 (.seq (.ops [S 3 (.mv (.t 0)),
   S 4 (.bin .eql .ptr (.t 3) (.v .nilp)),
   S 5 (.mv (.t 4)),
   ⟨(some 6), .mv (.t 0), (some (5, false)), []⟩,
   ⟨(some 7), .nz (.t 6), (some (5, false)), []⟩,
   ⟨(some 8), .fld 3 (.t 7), (some (5, false)), []⟩,
   ⟨(some 9), .ld false 1 (.t 8), (some (5, false)), []⟩,
   ⟨(some 10), .bin .eql .fn (.t 9) (.v .nilf), (some (5, false)), []⟩,
   S 11 (.pick (.t 5) (xB true) (.t 10)),
   S 2 (.mv (.t 11))])
 (.ret)),
 [.tmp 2], false, false, false⟩
/- (*sibyl/merger.Merger).Desk -/
def d_merger_Merger_Desk : DFn := ⟨1,
 .seq (.ops [S 2 (.mv (.v .nilp))])
 (.seq (.seq (.ops [S 3 (.mv (.t 0)),
   S 4 (.bin .eql .ptr (.t 3) (.v .nilp))])
 (.cond (.t 4)
  (.seq (.ops [S 2 (.mv (.v .nilp))])
  (.ret))
  (.skip)))
 (.seq (.ops [S 5 (.mv (.t 0)),
   S 6 (.nz (.t 5)),
   S 7 (.fld 2 (.t 6)),
   S 8 (.ld false 1 (.t 7)),
   S 2 (.mv (.t 8))])
 (.ret))),
 [.tmp 2], false, false, false⟩
/- (*sibyl/queue.Desk).Live -/
def d_queue_Desk_Live : DFn := ⟨1,
 .seq (.ops [S 2 (.mv (xI 0))])
 (.seq (.seq (.ops [S 3 (.mv (.t 0)),
   S 4 (.bin .eql .ptr (.t 3) (.v .nilp))])
 (.cond (.t 4)
  (.seq (.ops [S 2 (.mv (xI 0))])
  (.ret))
  (.skip)))
 (.seq (.ops [S 5 (.mv (.t 0)),
   S 6 (.nz (.t 5)),
   S 7 (.fld 7 (.t 6)),
   S 8 (.ld false 1 (.t 7)),
   S 9 (.len 2 (.t 8)),
   S 2 (.mv (.t 9))])
 (.ret))),
 [.tmp 2], false, false, false⟩
/- sibyl/log.Right -/
def d_log_Right : DFn := ⟨1,
 .seq (.ops [S 1 (.box true 7 (.t 0)),
   S 2 (.mv (xB false))])
 (.seq (.seq (.ops [S 5 (.fld 1 (.t 1)),
   S 6 (.ld false 1 (.t 5)),
   S 7 (.fld 2 (.t 1)),
   S 8 (.ld false 1 (.t 7)),
   S 9 (.fld 3 (.t 1)),
   S 10 (.ld false 1 (.t 9)),
   S 11 (.fld 4 (.t 1)),
   S 12 (.ld false 1 (.t 11)),
   S 13 (.fld 5 (.t 1)),
   S 14 (.ld false 1 (.t 13)),
   S 15 (.build [(eI 0), (eI 0), (eI 0), (eI 0), (eI 0)] [(0, 1, (.t 6)), (1, 1, (.t 8)), (2, 1, (.t 10)), (3, 1, (.t 12)), (4, 1, (.t 14))]),
   S 16 (.mv (xI 0))])
 (.block 0 (.loop [1, 15, 16] (.seq (.ops [S 17 (.bin .lss .none (.t 16) (xI 5))])
   (.seq (.cond (.t 17)
    (.skip)
    (.exit 0))
   (.seq (.block 1 (.seq (.ops [S 18 (.ixg 5 1 false (.t 15) (.t 16)),
      S 4 (.mv (.t 18))])
    (.seq (.ops [S 19 (.mv (.t 4)),
      S 20 (.bin .lss .none (.t 19) (xI 1)),
      S 21 (.mv (.t 20)),
      ⟨(some 22), .mv (.t 4), (some (21, false)), []⟩,
      ⟨(some 23), .bin .gtr .none (.t 22) (xI 4096), (some (21, false)), []⟩,
      S 24 (.pick (.t 21) (xB true) (.t 23))])
    (.cond (.t 24)
     (.seq (.ops [S 2 (.mv (xB false))])
     (.ret))
     (.skip)))))
   (.ops [S 25 (.bin .add .none (.t 16) (xI 1)),
     S 16 (.mv (.t 25))])))))))
 (.seq (.ops [S 26 (.fld 0 (.t 1)),
   S 27 (.ld false 1 (.t 26)),
   S 28 (.bin .geq .none (.t 27) (xI 1)),
   S 29 (.mv (.t 28)),
   ⟨(some 30), .fld 0 (.t 1), (some (29, true)), []⟩,
   ⟨(some 31), .ld false 1 (.t 30), (some (29, true)), []⟩,
   ⟨(some 32), .bin .leq .none (.t 31) (xI 15), (some (29, true)), []⟩,
   S 33 (.pick (.t 29) (.t 32) (xB false)),
   S 34 (.mv (.t 33)),
   ⟨(some 35), .fld 6 (.t 1), (some (34, true)), []⟩,
   ⟨(some 36), .ld false 1 (.t 35), (some (34, true)), []⟩,
   ⟨(some 37), .bin .geq .none (.t 36) (xI 1), (some (34, true)), []⟩,
   S 38 (.pick (.t 34) (.t 37) (xB false)),
   S 39 (.mv (.t 38)),
   ⟨(some 40), .fld 6 (.t 1), (some (39, true)), []⟩,
   ⟨(some 41), .ld false 1 (.t 40), (some (39, true)), []⟩,
   ⟨(some 42), .bin .leq .none (.t 41) (xI 1099511627776), (some (39, true)), []⟩,
   S 43 (.pick (.t 39) (.t 42) (xB false)),
   S 2 (.mv (.t 43))])
 (.ret))),
 [.tmp 2], false, true, false⟩
/- sibyl/store.New -/
def d_store_New : DFn := ⟨1,
 .seq (.ops [S 2 (.mv (.v .nilp))])
 (.seq (.seq (.ops [S 3 (.mv (.t 0)),
   S 4 (.bin .lss .none (.t 3) (xI 1)),
   S 5 (.mv (.t 4)),
   ⟨(some 6), .mv (.t 0), (some (5, false)), []⟩,
   ⟨(some 7), .bin .gtr .none (.t 6) (xI 4096), (some (5, false)), []⟩,
   S 8 (.pick (.t 5) (xB true) (.t 7))])
 (.cond (.t 8)
  (.seq (.ops [S 2 (.mv (.v .nilp))])
  (.ret))
  (.skip)))
 (.seq (.ops [S 9 (.mv (.t 0)),
   S 10 (.mks 9 true 72 [(eI 0), (eB false), (eI 0), (eI 0), (eI 0), (eI 0), (eI 0), (eI 0), (eI 0)] (.t 9) (.t 9)),
   S 11 (.build [(.full []), (eI 0), (eI 0)] [(0, 1, (.t 10))]),
   S 12 (.box true 3 (.t 11)),
   S 2 (.mv (.t 12))])
 (.ret))),
 [.tmp 2], false, false, false⟩
/- sibyl/epoch.New -/
def d_epoch_New : DFn := ⟨1,
 .seq (.ops [S 2 (.mv (.v .nilp))])
 (.seq (.seq (.ops [S 5 (.mv (.t 0)),
   S 6 (.bin .lss .none (.t 5) (xI 1)),
   S 7 (.mv (.t 6)),
   ⟨(some 8), .mv (.t 0), (some (7, false)), []⟩,
   ⟨(some 9), .bin .gtr .none (.t 8) (xI 16), (some (7, false)), []⟩,
   S 10 (.pick (.t 7) (xB true) (.t 9))])
 (.cond (.t 10)
  (.seq (.ops [S 2 (.mv (.v .nilp))])
  (.ret))
  (.skip)))
 (.seq (.ops [S 11 (.mv (.t 0)),
   S 12 (.build [(eI 0), (eI 0), (eI 0), (eI 0), (eI 0), (eI 0), (eI 0), (eI 0), (eI 0), (eI 0), (eI 0), (eI 0), (eI 0), (eI 0), (eI 0), (eI 0), (eI 0), (eI 0), (.full []), (.full []), (.full []), (.full []), (.full []), (.full []), (.full []), (.full []), (.full []), (.full []), (.full []), (.full []), (.full []), (.full []), (.full []), (.full [])] [(1, 1, (.t 11))]),
   S 13 (.box true 34 (.t 12)),
   S 3 (.mv (.t 13))])
 (.seq (.seq (.ops [S 14 (.mv (xI 0))])
 (.block 0 (.loop [3, 14] (.seq (.ops [S 15 (.bin .lss .none (.t 14) (xI 16))])
   (.seq (.cond (.t 15)
    (.skip)
    (.exit 0))
   (.seq (.block 1 (.seq (.ops [S 16 (.mv (.t 14)),
      S 4 (.mv (.t 16))])
    (.ops [S 17 (.mv (.t 3)),
      S 18 (.mv (.t 4)),
      S 19 (.nz (.t 17)),
      S 20 (.fld 2 (.t 19)),
      S 21 (.ixp 16 1 (.t 20) (.t 18)),
      E (.st 1 (.t 21) (xI (-1)))])))
   (.ops [S 22 (.bin .add .none (.t 14) (xI 1)),
     S 14 (.mv (.t 22))])))))))
 (.seq (.ops [S 23 (.mv (.t 3)),
   S 2 (.mv (.t 23))])
 (.ret))))),
 [.tmp 2], false, false, false⟩
/- sibyl/ring.New[sibyl/api.Command] -/
def d_ring_New : DFn := ⟨1,
 .seq (.ops [S 2 (.mv (.v .nilp))])
 (.seq (.seq (.ops [S 3 (.mv (.t 0)),
   S 4 (.bin .lss .none (.t 3) (xI 1)),
   S 5 (.mv (.t 4)),
   ⟨(some 6), .mv (.t 0), (some (5, false)), []⟩,
   ⟨(some 7), .bin .gtr .none (.t 6) (xI 4096), (some (5, false)), []⟩,
   S 8 (.pick (.t 5) (xB true) (.t 7))])
 (.cond (.t 8)
  (.seq (.ops [S 2 (.mv (.v .nilp))])
  (.ret))
  (.skip)))
 (.seq (.ops [S 9 (.mv (.t 0)),
   S 10 (.mks 15 true 136 [(eI 0), (eI 0), (eI 0), (eI 0), (eI 0), (eI 0), (eI 0), (eI 0), (eI 0), (eI 0), (eI 0), (.full []), (eI 0), (eB false), (eB false)] (.t 9) (.t 9)),
   S 11 (.build [(.full []), (eI 0)] [(0, 1, (.t 10))]),
   S 12 (.box true 2 (.t 11)),
   S 2 (.mv (.t 12))])
 (.ret))),
 [.tmp 2], false, false, false⟩
/- sibyl/ring.New[sibyl/api.Out] -/
def d_ring_New_30 : DFn := ⟨1,
 .seq (.ops [S 2 (.mv (.v .nilp))])
 (.seq (.seq (.ops [S 3 (.mv (.t 0)),
   S 4 (.bin .lss .none (.t 3) (xI 1)),
   S 5 (.mv (.t 4)),
   ⟨(some 6), .mv (.t 0), (some (5, false)), []⟩,
   ⟨(some 7), .bin .gtr .none (.t 6) (xI 4096), (some (5, false)), []⟩,
   S 8 (.pick (.t 5) (xB true) (.t 7))])
 (.cond (.t 8)
  (.seq (.ops [S 2 (.mv (.v .nilp))])
  (.ret))
  (.skip)))
 (.seq (.ops [S 9 (.mv (.t 0)),
   S 10 (.mks 5 true 104 [(.full []), (.full []), (.full []), (.full []), (eB false)] (.t 9) (.t 9)),
   S 11 (.build [(.full []), (eI 0)] [(0, 1, (.t 10))]),
   S 12 (.box true 2 (.t 11)),
   S 2 (.mv (.t 12))])
 (.ret))),
 [.tmp 2], false, false, false⟩
/- sibyl/shard.New -/
def d_shard_New : DFn := ⟨2,
 .seq (.ops [S 2 (.box true 7 (.t 0)),
   S 4 (.mv (.v .nilp))])
 (.seq (.seq (.ops [S 5 (.fld 0 (.t 2)),
   S 6 (.ld false 1 (.t 5)),
   S 7 (.call n_shard_within [(.t 6), (xI 15)]),
   S 8 (.un .not (.t 7)),
   S 9 (.mv (.t 8)),
   ⟨(some 10), .fld 4 (.t 2), (some (9, false)), []⟩,
   ⟨(some 11), .ld false 1 (.t 10), (some (9, false)), []⟩,
   ⟨(some 12), .call n_shard_within [(.t 11), (xI 4096)], (some (9, false)), []⟩,
   ⟨(some 13), .un .not (.t 12), (some (9, false)), []⟩,
   S 14 (.pick (.t 9) (xB true) (.t 13)),
   S 15 (.mv (.t 14)),
   ⟨(some 16), .fld 3 (.t 2), (some (15, false)), []⟩,
   ⟨(some 17), .ld false 1 (.t 16), (some (15, false)), []⟩,
   ⟨(some 18), .call n_shard_within [(.t 17), (xI 4096)], (some (15, false)), []⟩,
   ⟨(some 19), .un .not (.t 18), (some (15, false)), []⟩,
   S 20 (.pick (.t 15) (xB true) (.t 19)),
   S 21 (.mv (.t 20)),
   ⟨(some 22), .mv (.t 1), (some (21, false)), []⟩,
   ⟨(some 23), .bin .lss .none (.t 22) (xI 0), (some (21, false)), []⟩,
   S 24 (.pick (.t 21) (xB true) (.t 23)),
   S 25 (.mv (.t 24)),
   ⟨(some 26), .mv (.t 1), (some (25, false)), []⟩,
   ⟨(some 27), .fld 0 (.t 2), (some (25, false)), []⟩,
   ⟨(some 28), .ld false 1 (.t 27), (some (25, false)), []⟩,
   ⟨(some 29), .bin .geq .none (.t 26) (.t 28), (some (25, false)), []⟩,
   S 30 (.pick (.t 25) (xB true) (.t 29))])
 (.cond (.t 30)
  (.seq (.ops [S 4 (.mv (.v .nilp))])
  (.ret))
  (.skip)))
 (.seq (.ops [S 31 (.ld true 7 (.t 2)),
   S 32 (.mv (.t 1)),
   S 33 (.mkmap),
   S 34 (.build [(eI 0), (eI 0), (eI 0), (eI 0), (eI 0), (eI 0), (eI 0), (eI 0), (eI 0), .nilp, .nilmap, (eI 0)] [(0, 7, (.t 31)), (7, 1, (.t 32)), (8, 1, (xI (-1))), (10, 1, (.t 33))]),
   S 35 (.box true 12 (.t 34)),
   S 4 (.mv (.t 35))])
 (.ret))),
 [.tmp 4], false, false, false⟩
/- (*sibyl/log.Log).Config -/
def d_log_Log_Config : DFn := ⟨1,
 .seq (.ops [S 2 (.new true [(eI 0), (eI 0), (eI 0), (eI 0), (eI 0), (eI 0), (eI 0)])])
 (.seq (.seq (.ops [S 3 (.mv (.t 0)),
   S 4 (.bin .eql .ptr (.t 3) (.v .nilp))])
 (.cond (.t 4)
  (.seq (.ops [S 5 (.build [(eI 0), (eI 0), (eI 0), (eI 0), (eI 0), (eI 0), (eI 0)] []),
    E (.st 7 (.t 2) (.t 5))])
  (.ret))
  (.skip)))
 (.seq (.ops [S 6 (.mv (.t 0)),
   S 7 (.nz (.t 6)),
   S 8 (.fld 0 (.t 7)),
   S 9 (.fld 0 (.t 8)),
   S 10 (.ld true 7 (.t 9)),
   E (.st 7 (.t 2) (.t 10))])
 (.ret))),
 [.cell 2 true 7], false, false, false⟩
/- (*sibyl/log.Log).Low -/
def d_log_Log_Low : DFn := ⟨1,
 .seq (.ops [S 2 (.mv (xI 0))])
 (.seq (.seq (.ops [S 3 (.mv (.t 0)),
   S 4 (.bin .eql .ptr (.t 3) (.v .nilp))])
 (.cond (.t 4)
  (.seq (.ops [S 2 (.mv (xI 0))])
  (.ret))
  (.skip)))
 (.seq (.ops [S 5 (.mv (.t 0)),
   S 6 (.nz (.t 5)),
   S 7 (.fld 11 (.t 6)),
   S 8 (.ld false 1 (.t 7)),
   S 9 (.call n_ring_Ring_Low [(.t 8)]),
   S 2 (.mv (.t 9))])
 (.ret))),
 [.tmp 2], false, false, false⟩
/- (*sibyl/ring.Ring[sibyl/api.Command]).Put -/
def d_ring_Ring_Put : DFn := ⟨3,
 .seq (.ops [S 5 (.box true 14 (.t 2)),
   S 6 (.mv (xB false))])
 (.seq (.ops [S 8 (.mv (.t 0)),
   S 9 (.mv (.t 1)),
   S 10 (.call n_ring_Ring_at [(.t 8), (.t 9)]),
   S 7 (.mv (.t 10))])
 (.seq (.seq (.ops [S 11 (.mv (.t 7)),
   S 12 (.bin .eql .ptr (.t 11) (.v .nilp)),
   S 13 (.mv (.t 12)),
   ⟨(some 14), .mv (.t 7), (some (13, false)), []⟩,
   ⟨(some 15), .nz (.t 14), (some (13, false)), []⟩,
   ⟨(some 16), .fld 14 (.t 15), (some (13, false)), []⟩,
   ⟨(some 17), .ld false 1 (.t 16), (some (13, false)), []⟩,
   S 18 (.pick (.t 13) (xB true) (.t 17))])
 (.cond (.t 18)
  (.seq (.ops [S 6 (.mv (xB false))])
  (.ret))
  (.skip)))
 (.seq (.ops [S 19 (.mv (.t 7)),
   S 20 (.ld true 14 (.t 5)),
   S 21 (.build [(eI 0), (eI 0), (eI 0), (eI 0), (eI 0), (eI 0), (eI 0), (eI 0), (eI 0), (eI 0), (eI 0), (.full []), (eI 0), (eB false), (eB false)] [(0, 14, (.t 20)), (14, 1, (xB true))]),
   S 22 (.nz (.t 19)),
   E (.st 15 (.t 22) (.t 21))])
 (.seq (.ops [S 6 (.mv (xB true))])
 (.ret))))),
 [.tmp 6], false, false, false⟩
/- (*sibyl/worker.Worker).look -/
def d_worker_Worker_look : DFn := ⟨1,
 .seq (.ops [S 2 (.mv (xB false))])
 (.seq (.ops [S 6 (.mv (.t 0)),
   S 7 (.nz (.t 6)),
   S 8 (.fld 0 (.t 7)),
   S 9 (.ld false 1 (.t 8)),
   S 10 (.mv (.t 0)),
   S 11 (.nz (.t 10)),
   S 12 (.fld 0 (.t 11)),
   S 13 (.ld false 1 (.t 12)),
   S 14 (.mv (.t 0)),
   S 15 (.nz (.t 14)),
   S 16 (.fld 1 (.t 15)),
   S 17 (.ld false 1 (.t 16)),
   S 3 (.new true [(eI 0), (eI 0), (eI 0), (eI 0), (eI 0), (eI 0), (eI 0), (eI 0), (eI 0), (eI 0), (eI 0), (.full []), (eI 0), (eB false)]),
   ⟨(some 18), .call n_log_Log_Cursor [(.t 13), (.t 17)], none, [(9, .ld false 1 (.t 8), none)]⟩,
   S 19 (.call n_log_Log_Look [(.t 9), (.t 18)]),
   S 5 (.mv (.t 19)),
   S 20 (.ext (.t 5) 0),
   S 21 (.ext (.t 5) 1),
   E (.st 14 (.t 3) (.t 20)),
   S 4 (.mv (.t 21))])
 (.seq (.seq (.ops [S 22 (.mv (.t 4))])
 (.cond (.t 22)
  (.seq (.ops [S 23 (.mv (.t 0)),
    S 24 (.ld true 14 (.t 3)),
    S 25 (.nz (.t 23)),
    S 26 (.fld 4 (.t 25)),
    E (.st 14 (.t 26) (.t 24))])
  (.ops [S 27 (.mv (.t 0)),
    S 28 (.mv (.t 0)),
    S 29 (.mkf (.func n_worker_Worker_pin) [(.t 28)] []),
    S 30 (.nz (.t 27)),
    S 31 (.fld 3 (.t 30)),
    E (.st 1 (.t 31) (.t 29))]))
  (.skip)))
 (.seq (.ops [S 32 (.mv (.t 4)),
   S 2 (.mv (.t 32))])
 (.ret)))),
 [.tmp 2], false, false, false⟩
/- sibyl/queue.New -/
def d_queue_New : DFn := ⟨1,
 .seq (.ops [S 1 (.box true 7 (.t 0)),
   S 2 (.mv (.v .nilp))])
 (.seq (.seq (.ops [S 3 (.fld 3 (.t 1)),
   S 4 (.ld false 1 (.t 3)),
   S 5 (.bin .lss .none (.t 4) (xI 1)),
   S 6 (.mv (.t 5)),
   ⟨(some 7), .fld 3 (.t 1), (some (6, false)), []⟩,
   ⟨(some 8), .ld false 1 (.t 7), (some (6, false)), []⟩,
   ⟨(some 9), .bin .gtr .none (.t 8) (xI 4096), (some (6, false)), []⟩,
   S 10 (.pick (.t 6) (xB true) (.t 9)),
   S 11 (.mv (.t 10)),
   ⟨(some 12), .fld 5 (.t 1), (some (11, false)), []⟩,
   ⟨(some 13), .ld false 1 (.t 12), (some (11, false)), []⟩,
   ⟨(some 14), .bin .lss .none (.t 13) (xI 1), (some (11, false)), []⟩,
   S 15 (.pick (.t 11) (xB true) (.t 14)),
   S 16 (.mv (.t 15)),
   ⟨(some 17), .fld 5 (.t 1), (some (16, false)), []⟩,
   ⟨(some 18), .ld false 1 (.t 17), (some (16, false)), []⟩,
   ⟨(some 19), .bin .gtr .none (.t 18) (xI 4096), (some (16, false)), []⟩,
   S 20 (.pick (.t 16) (xB true) (.t 19))])
 (.cond (.t 20)
  (.seq (.ops [S 2 (.mv (.v .nilp))])
  (.ret))
  (.skip)))
 (.seq (.ops [S 21 (.ld true 7 (.t 1)),
   S 22 (.mkmap),
   S 23 (.build [(eI 0), (eI 0), (eI 0), (eI 0), (eI 0), (eI 0), (eI 0), .nilmap] [(0, 7, (.t 21)), (7, 1, (.t 22))]),
   S 24 (.box true 8 (.t 23)),
   S 2 (.mv (.t 24))])
 (.ret))),
 [.tmp 2], false, false, false⟩
/- (*sibyl/merger.Merger).collect -/
def d_merger_Merger_collect : DFn := ⟨1,
 .seq (.ops [S 2 (.mv (xB false))])
 (.seq (.ops [S 6 (.mv (.t 0)),
   S 7 (.nz (.t 6)),
   S 8 (.fld 0 (.t 7)),
   S 9 (.ld false 1 (.t 8)),
   S 10 (.call n_log_Log_Collect [(.t 9)]),
   S 5 (.mv (.t 10)),
   S 11 (.ext (.t 5) 0),
   S 12 (.ext (.t 5) 1),
   S 3 (.mv (.t 11)),
   S 4 (.mv (.t 12))])
 (.seq (.seq (.ops [S 13 (.mv (.t 4))])
 (.cond (.t 13)
  (.seq (.ops [S 14 (.mv (.t 0)),
    S 15 (.mv (.t 3)),
    S 16 (.nz (.t 14)),
    S 17 (.fld 4 (.t 16)),
    E (.st 1 (.t 17) (.t 15))])
  (.ops [S 18 (.mv (.t 0)),
    S 19 (.mv (.t 0)),
    S 20 (.mkf (.func n_merger_Merger_do) [(.t 19)] []),
    S 21 (.nz (.t 18)),
    S 22 (.fld 3 (.t 21)),
    E (.st 1 (.t 22) (.t 20))]))
  (.skip)))
 (.seq (.ops [S 23 (.mv (.t 4)),
   S 2 (.mv (.t 23))])
 (.ret)))),
 [.tmp 2], false, false, false⟩
/- sibyl/sibyllaw22.side -/
def d_sibyllaw22_side : DFn := ⟨1,
 .seq (.ops [S 1 (.box true 6 (.t 0)),
   S 2 (.mv (.v .nilp))])
 (.seq (.ops [S 5 (.ld true 6 (.t 1)),
   S 6 (.call n_sibyllaw22_Spec_config [(.t 5)]),
   S 7 (.call n_log_New [(.t 6)]),
   S 8 (.build [.nilp, (.full [])] [(0, 1, (.t 7))]),
   S 9 (.box true 2 (.t 8)),
   S 3 (.mv (.t 9))])
 (.seq (.seq (.ops [S 4 (.mv (xI 0))])
 (.block 0 (.loop [1, 3, 4] (.seq (.seq (.ops [S 10 (.mv (.t 4)),
     S 11 (.ld true 6 (.t 1)),
     S 12 (.call n_sibyllaw22_Spec_config [(.t 11)]),
     S 13 (.fget 0 1 false (.t 12)),
     S 14 (.bin .lss .none (.t 10) (.t 13))])
   (.cond (.t 14)
    (.skip)
    (.exit 0)))
   (.seq (.block 1 (.ops [S 17 (.mv (.t 3)),
      S 18 (.mv (.t 3)),
      S 19 (.nz (.t 18)),
      S 20 (.fld 1 (.t 19)),
      S 21 (.ld false 1 (.t 20)),
      S 22 (.mv (.t 3)),
      S 23 (.nz (.t 22)),
      S 24 (.fld 0 (.t 23)),
      S 25 (.ld false 1 (.t 24)),
      S 26 (.mv (.t 4)),
      ⟨(some 27), .call n_worker_New [(.t 25), (.t 26)], none, [(21, .ld false 1 (.t 20), none)]⟩,
      S 28 (.lit 1 false [[.nilp]] [(0, (.t 27))]),
      S 29 (.app 1 false 8 (.t 21) (.t 28)),
      S 30 (.nz (.t 17)),
      S 31 (.fld 1 (.t 30)),
      E (.st 1 (.t 31) (.t 29))]))
   (.ops [S 15 (.mv (.t 4)),
     S 16 (.bin .add .none (.t 15) (xI 1)),
     S 4 (.mv (.t 16))]))))))
 (.seq (.ops [S 32 (.mv (.t 3)),
   S 2 (.mv (.t 32))])
 (.ret)))),
 [.tmp 2], false, false, false⟩
/- (*sibyl/sibyllaw22.Side).work -/
def d_sibyllaw22_Side_work : DFn := ⟨1,
 .seq (.ops [S 2 (.mv (xI 0))])
 (.block 0 (.loop [0, 2] (.seq (.seq (.ops [S 4 (.mv (.t 2)),
     S 5 (.mv (.t 0)),
     S 6 (.nz (.t 5)),
     S 7 (.fld 1 (.t 6)),
     S 8 (.ld false 1 (.t 7)),
     S 9 (.len 0 (.t 8)),
     S 10 (.bin .lss .none (.t 4) (.t 9))])
   (.cond (.t 10)
    (.skip)
    (.exit 0)))
   (.seq (.block 1 (.seq (.ops [S 3 (.mv (xI 0))])
    (.block 2 (.loop [0, 2, 3] (.seq (.seq (.ops [S 13 (.mv (.t 3)),
        S 14 (.bin .lss .none (.t 13) (xI 900))])
      (.cond (.t 14)
       (.skip)
       (.exit 2)))
      (.seq (.block 3 (.ops [S 17 (.mv (.t 0)),
         S 18 (.nz (.t 17)),
         S 19 (.fld 1 (.t 18)),
         S 20 (.ld false 1 (.t 19)),
         S 21 (.mv (.t 2)),
         S 22 (.ixa 1 (.t 20) (.t 21)),
         S 23 (.ld false 1 (.t 22)),
         S 24 (.call n_worker_Worker_Step [(.t 23)])]))
      (.ops [S 15 (.mv (.t 3)),
        S 16 (.bin .add .none (.t 15) (xI 1)),
        S 3 (.mv (.t 16))])))))))
   (.ops [S 11 (.mv (.t 2)),
     S 12 (.bin .add .none (.t 11) (xI 1)),
     S 2 (.mv (.t 12))]))))),
 [], false, false, false⟩
/- (*sibyl/log.Log).Answer -/
def d_log_Log_Answer : DFn := ⟨2,
 .seq (.ops [S 4 (.new true [(eI 0), (eI 0), (.full [])]),
   S 5 (.mv (xB false))])
 (.seq (.seq (.ops [S 8 (.mv (.t 0)),
   S 9 (.bin .eql .ptr (.t 8) (.v .nilp))])
 (.cond (.t 9)
  (.seq (.ops [S 10 (.build [(eI 0), (eI 0), (.full [])] []),
    E (.st 3 (.t 4) (.t 10)),
    S 5 (.mv (xB false))])
  (.ret))
  (.skip)))
 (.seq (.ops [S 12 (.mv (.t 0)),
   S 13 (.nz (.t 12)),
   S 14 (.fld 14 (.t 13)),
   S 15 (.ld false 1 (.t 14)),
   S 16 (.mv (.t 1)),
   S 17 (.look .int (.agg [(eI 0), (eI 0), (.full [])]) true (.t 15) (.t 16)),
   S 11 (.mv (.t 17)),
   S 18 (.ext (.t 11) 0),
   S 19 (.ext (.t 11) 1),
   S 6 (.new true [(eI 0), (eI 0), (.full [])]),
   E (.st 3 (.t 6) (.t 18)),
   S 7 (.mv (.t 19))])
 (.seq (.ops [S 20 (.mv (.t 0)),
   S 21 (.nz (.t 20)),
   S 22 (.fld 14 (.t 21)),
   S 23 (.ld false 1 (.t 22)),
   S 24 (.mv (.t 1)),
   E (.del .int (.t 23) (.t 24))])
 (.seq (.ops [S 25 (.ld true 3 (.t 6)),
   S 26 (.mv (.t 7)),
   E (.st 3 (.t 4) (.t 25)),
   S 5 (.mv (.t 26))])
 (.ret))))),
 [.cell 4 true 3, .tmp 5], false, false, false⟩
/- sibyl/shard.within -/
def d_shard_within : DFn := ⟨2,
 .seq (.ops [S 4 (.mv (xB false))])
 (.seq (.ops [S 5 (.mv (.t 0)),
   S 6 (.bin .geq .none (.t 5) (xI 1)),
   S 7 (.mv (.t 6)),
   ⟨(some 8), .mv (.t 0), (some (7, true)), []⟩,
   ⟨(some 9), .mv (.t 1), (some (7, true)), []⟩,
   ⟨(some 10), .bin .leq .none (.t 8) (.t 9), (some (7, true)), []⟩,
   S 11 (.pick (.t 7) (.t 10) (xB false)),
   S 4 (.mv (.t 11))])
 (.ret)),
 [.tmp 4], false, false, false⟩
/- (*sibyl/ring.Ring[sibyl/api.Command]).Low -/
def d_ring_Ring_Low : DFn := ⟨1,
 .seq (.ops [S 2 (.mv (xI 0))])
 (.seq (.seq (.ops [S 3 (.mv (.t 0)),
   S 4 (.bin .eql .ptr (.t 3) (.v .nilp))])
 (.cond (.t 4)
  (.seq (.ops [S 2 (.mv (xI 0))])
  (.ret))
  (.skip)))
 (.seq (.ops [S 5 (.mv (.t 0)),
   S 6 (.nz (.t 5)),
   S 7 (.fld 1 (.t 6)),
   S 8 (.ld false 1 (.t 7)),
   S 2 (.mv (.t 8))])
 (.ret))),
 [.tmp 2], false, false, false⟩
/- (*sibyl/ring.Ring[sibyl/api.Command]).at -/
def d_ring_Ring_at : DFn := ⟨2,
 .seq (.ops [S 4 (.mv (.v .nilp))])
 (.seq (.seq (.ops [S 5 (.mv (.t 0)),
   S 6 (.bin .eql .ptr (.t 5) (.v .nilp)),
   S 7 (.mv (.t 6)),
   ⟨(some 8), .mv (.t 1), (some (7, false)), []⟩,
   ⟨(some 9), .mv (.t 0), (some (7, false)), []⟩,
   ⟨(some 10), .nz (.t 9), (some (7, false)), []⟩,
   ⟨(some 11), .fld 1 (.t 10), (some (7, false)), []⟩,
   ⟨(some 12), .ld false 1 (.t 11), (some (7, false)), []⟩,
   ⟨(some 13), .bin .lss .none (.t 8) (.t 12), (some (7, false)), []⟩,
   S 14 (.pick (.t 7) (xB true) (.t 13)),
   S 15 (.mv (.t 14)),
   ⟨(some 16), .mv (.t 1), (some (15, false)), []⟩,
   ⟨(some 17), .mv (.t 0), (some (15, false)), []⟩,
   ⟨(some 18), .nz (.t 17), (some (15, false)), []⟩,
   ⟨(some 19), .fld 1 (.t 18), (some (15, false)), []⟩,
   ⟨(some 20), .ld false 1 (.t 19), (some (15, false)), []⟩,
   ⟨(some 21), .bin .sub .none (.t 16) (.t 20), (some (15, false)), []⟩,
   ⟨(some 22), .mv (.t 0), (some (15, false)), []⟩,
   ⟨(some 23), .nz (.t 22), (some (15, false)), []⟩,
   ⟨(some 24), .fld 0 (.t 23), (some (15, false)), []⟩,
   ⟨(some 25), .ld false 1 (.t 24), (some (15, false)), []⟩,
   ⟨(some 26), .len 0 (.t 25), (some (15, false)), []⟩,
   ⟨(some 27), .bin .geq .none (.t 21) (.t 26), (some (15, false)), []⟩,
   S 28 (.pick (.t 15) (xB true) (.t 27))])
 (.cond (.t 28)
  (.seq (.ops [S 4 (.mv (.v .nilp))])
  (.ret))
  (.skip)))
 (.seq (.ops [S 29 (.mv (.t 0)),
   S 30 (.nz (.t 29)),
   S 31 (.fld 0 (.t 30)),
   S 32 (.ld false 1 (.t 31)),
   S 33 (.mv (.t 1)),
   S 34 (.mv (.t 0)),
   S 35 (.nz (.t 34)),
   S 36 (.fld 0 (.t 35)),
   S 37 (.ld false 1 (.t 36)),
   S 38 (.len 0 (.t 37)),
   S 39 (.bin .rem .none (.t 33) (.t 38)),
   S 40 (.ixa 15 (.t 32) (.t 39)),
   S 4 (.mv (.t 40))])
 (.ret))),
 [.tmp 4], false, false, false⟩
/- (*sibyl/log.Log).Look -/
def d_log_Log_Look : DFn := ⟨2,
 .seq (.ops [S 4 (.new true [(eI 0), (eI 0), (eI 0), (eI 0), (eI 0), (eI 0), (eI 0), (eI 0), (eI 0), (eI 0), (eI 0), (.full []), (eI 0), (eB false)]),
   S 5 (.mv (xB false))])
 (.seq (.seq (.ops [S 6 (.mv (.t 0)),
   S 7 (.bin .eql .ptr (.t 6) (.v .nilp))])
 (.cond (.t 7)
  (.seq (.ops [S 8 (.build [(eI 0), (eI 0), (eI 0), (eI 0), (eI 0), (eI 0), (eI 0), (eI 0), (eI 0), (eI 0), (eI 0), (.full []), (eI 0), (eB false)] []),
    E (.st 14 (.t 4) (.t 8)),
    S 5 (.mv (xB false))])
  (.ret))
  (.skip)))
 (.seq (.ops [S 9 (.mv (.t 0)),
   S 10 (.nz (.t 9)),
   S 11 (.fld 11 (.t 10)),
   S 12 (.ld false 1 (.t 11)),
   S 13 (.mv (.t 1)),
   S 14 (.call n_ring_Ring_Get [(.t 12), (.t 13)]),
   S 15 (.ext (.t 14) 0),
   S 16 (.ext (.t 14) 1),
   E (.st 14 (.t 4) (.t 15)),
   S 5 (.mv (.t 16))])
 (.ret))),
 [.cell 4 true 14, .tmp 5], false, false, false⟩
/- (*sibyl/worker.Worker).pin -/
def d_worker_Worker_pin : DFn := ⟨1,
 .seq (.ops [S 2 (.mv (.t 0)),
   S 3 (.nz (.t 2)),
   S 4 (.fld 0 (.t 3)),
   S 5 (.ld false 1 (.t 4)),
   S 7 (.mv (.t 0)),
   S 8 (.nz (.t 7)),
   S 9 (.fld 1 (.t 8)),
   S 10 (.ld false 1 (.t 9)),
   ⟨(some 6), .call n_log_Log_Epochs [(.t 5)], none, [(10, .ld false 1 (.t 9), none)]⟩,
   S 11 (.call n_epoch_Epochs_Pin [(.t 6), (.t 10)])])
 (.ops [S 12 (.mv (.t 0)),
   S 13 (.mv (.t 0)),
   S 14 (.mkf (.func n_worker_Worker_apply) [(.t 13)] []),
   S 15 (.nz (.t 12)),
   S 16 (.fld 3 (.t 15)),
   E (.st 1 (.t 16) (.t 14))]),
 [], false, false, false⟩
/- (*sibyl/log.Log).Collect -/
def d_log_Log_Collect : DFn := ⟨1,
 .seq (.ops [S 1 (.box false 1 (.t 0)),
   S 2 (.nils 4 true),
   S 3 (.mv (xB false))])
 (.seq (.ops [S 11 (.ld false 1 (.t 1)),
   S 12 (.ld false 1 (.t 1)),
   S 4 (.new true [(eI 0), (eI 0), (eI 0), (eI 0), (eI 0), (eI 0), (eI 0), (eI 0), (eI 0), (eI 0), (eI 0), (.full []), (eI 0), (eB false)]),
   ⟨(some 13), .call n_log_Log_Low [(.t 12)], none, [(11, .ld false 1 (.t 1), none)]⟩,
   S 14 (.call n_log_Log_Look [(.t 11), (.t 13)]),
   S 10 (.mv (.t 14)),
   S 15 (.ext (.t 10) 0),
   S 16 (.ext (.t 10) 1),
   E (.st 14 (.t 4) (.t 15)),
   S 5 (.mv (.t 16))])
 (.seq (.ops [S 17 (.mkf (.func n_log_Log_Collect_1) [] [(.t 1), (.t 4)]),
   S 6 (.mv (.t 17))])
 (.seq (.seq (.ops [S 18 (.mv (.t 5)),
   S 19 (.un .not (.t 18)),
   S 20 (.mv (.t 19)),
   ⟨(some 21), .ld false 1 (.t 1), (some (20, false)), []⟩,
   ⟨(some 22), .nz (.t 21), (some (20, false)), []⟩,
   ⟨(some 23), .fld 12 (.t 22), (some (20, false)), []⟩,
   ⟨(some 24), .ld false 1 (.t 23), (some (20, false)), []⟩,
   ⟨(some 25), .mv (.t 6), (some (20, false)), []⟩,
   ⟨(some 26), .call n_slices_ContainsFunc [(.t 24), (.t 25)], (some (20, false)), []⟩,
   S 27 (.pick (.t 20) (xB true) (.t 26))])
 (.cond (.t 27)
  (.seq (.ops [S 2 (.nils 4 true),
    S 3 (.mv (xB false))])
  (.ret))
  (.skip)))
 (.seq (.ops [S 28 (.ld false 1 (.t 1)),
   S 29 (.nz (.t 28)),
   S 30 (.fld 13 (.t 29)),
   S 31 (.ld false 1 (.t 30)),
   S 32 (.len 0 (.t 31)),
   S 33 (.mks 4 true 96 [(.full []), (.full []), (.full []), (.full [])] (.t 32) (.t 32)),
   S 7 (.mv (.t 33))])
 (.seq (.seq (.ops [S 34 (.ld false 1 (.t 1)),
   S 35 (.nz (.t 34)),
   S 36 (.fld 13 (.t 35)),
   S 37 (.ld false 1 (.t 36)),
   S 38 (.len 0 (.t 37)),
   S 39 (.mv (xI 0))])
 (.block 0 (.loop [1, 7, 37, 38, 39] (.seq (.ops [S 40 (.bin .lss .none (.t 39) (.t 38))])
   (.seq (.cond (.t 40)
    (.skip)
    (.exit 0))
   (.seq (.block 1 (.seq (.ops [S 41 (.mv (.t 39)),
      S 42 (.ixa 1 (.t 37) (.t 39)),
      S 43 (.ld false 1 (.t 42)),
      S 8 (.mv (.t 41)),
      S 9 (.mv (.t 43))])
    (.ops [S 45 (.mv (.t 7)),
      S 46 (.mv (.t 8)),
      S 47 (.mv (.t 9)),
      S 48 (.ld false 1 (.t 1)),
      S 49 (.call n_log_Log_Low [(.t 48)]),
      S 50 (.call n_ring_Ring_Get_54 [(.t 47), (.t 49)]),
      S 44 (.mv (.t 50)),
      S 51 (.ext (.t 44) 0),
      S 52 (.ext (.t 44) 1),
      S 53 (.ixa 4 (.t 45) (.t 46)),
      E (.st 4 (.t 53) (.t 51))])))
   (.ops [S 54 (.bin .add .none (.t 39) (xI 1)),
     S 39 (.mv (.t 54))])))))))
 (.seq (.ops [S 55 (.mv (.t 7)),
   S 2 (.mv (.t 55)),
   S 3 (.mv (xB true))])
 (.ret))))))),
 [.tmp 2, .tmp 3], false, false, false⟩
/- (*sibyl/merger.Merger).do -/
def d_merger_Merger_do : DFn := ⟨1,
 .seq (.ops [S 5 (.mv (.t 0)),
   S 6 (.nz (.t 5)),
   S 7 (.fld 0 (.t 6)),
   S 8 (.ld false 1 (.t 7)),
   S 9 (.call n_log_Log_Low [(.t 8)]),
   S 2 (.mv (.t 9))])
 (.seq (.ops [S 11 (.mv (.t 0)),
   S 12 (.nz (.t 11)),
   S 13 (.fld 0 (.t 12)),
   S 14 (.ld false 1 (.t 13)),
   S 15 (.mv (.t 2)),
   S 16 (.call n_log_Log_Look [(.t 14), (.t 15)]),
   S 10 (.mv (.t 16)),
   S 17 (.ext (.t 10) 0),
   S 18 (.ext (.t 10) 1),
   S 3 (.new true [(eI 0), (eI 0), (eI 0), (eI 0), (eI 0), (eI 0), (eI 0), (eI 0), (eI 0), (eI 0), (eI 0), (.full []), (eI 0), (eB false)]),
   E (.st 14 (.t 3) (.t 17)),
   S 4 (.mv (.t 18))])
 (.seq (.ops [S 20 (.mv (.t 0)),
   S 21 (.mv (.t 0)),
   S 22 (.mv (.t 0)),
   S 23 (.nz (.t 22)),
   S 24 (.fld 2 (.t 23)),
   S 25 (.ld false 1 (.t 24)),
   S 26 (.mv (.t 2)),
   S 27 (.ld true 14 (.t 3)),
   S 28 (.mv (.t 0)),
   S 29 (.nz (.t 28)),
   S 30 (.fld 4 (.t 29)),
   S 31 (.ld false 1 (.t 30)),
   S 32 (.call n_queue_Desk_Do [(.t 25), (.t 26), (.t 27), (.t 31)]),
   S 19 (.mv (.t 32)),
   S 33 (.ext (.t 19) 0),
   S 34 (.ext (.t 19) 1),
   S 35 (.nz (.t 20)),
   S 36 (.fld 5 (.t 35)),
   E (.st 3 (.t 36) (.t 33)),
   S 37 (.nz (.t 21)),
   S 38 (.fld 8 (.t 37)),
   E (.st 1 (.t 38) (.t 34))])
 (.ops [S 39 (.mv (.t 0)),
   S 40 (.call n_merger_Merger_goOn [(.t 39)])]))),
 [], false, false, false⟩
/- (*sibyl/ring.Ring[sibyl/api.Command]).Get -/
def d_ring_Ring_Get : DFn := ⟨2,
 .seq (.ops [S 4 (.new true [(eI 0), (eI 0), (eI 0), (eI 0), (eI 0), (eI 0), (eI 0), (eI 0), (eI 0), (eI 0), (eI 0), (.full []), (eI 0), (eB false)]),
   S 5 (.mv (xB false))])
 (.seq (.ops [S 8 (.mv (.t 0)),
   S 9 (.mv (.t 1)),
   S 10 (.call n_ring_Ring_at [(.t 8), (.t 9)]),
   S 6 (.mv (.t 10))])
 (.seq (.seq (.ops [S 11 (.mv (.t 6)),
   S 12 (.bin .eql .ptr (.t 11) (.v .nilp))])
 (.cond (.t 12)
  (.seq (.ops [S 7 (.new true [(eI 0), (eI 0), (eI 0), (eI 0), (eI 0), (eI 0), (eI 0), (eI 0), (eI 0), (eI 0), (eI 0), (.full []), (eI 0), (eB false)])])
  (.seq (.ops [S 13 (.ld true 14 (.t 7)),
    E (.st 14 (.t 4) (.t 13)),
    S 5 (.mv (xB false))])
  (.ret)))
  (.skip)))
 (.seq (.ops [S 14 (.mv (.t 6)),
   S 15 (.nz (.t 14)),
   S 16 (.fld 0 (.t 15)),
   S 17 (.ld true 14 (.t 16)),
   S 18 (.mv (.t 6)),
   S 19 (.nz (.t 18)),
   S 20 (.fld 14 (.t 19)),
   S 21 (.ld false 1 (.t 20)),
   ⟨none, .st 14 (.t 4) (.t 17), none, [(21, .ld false 1 (.t 20), none)]⟩,
   S 5 (.mv (.t 21))])
 (.ret)))),
 [.cell 4 true 14, .tmp 5], false, false, false⟩
/- (*sibyl/log.Log).Epochs -/
def d_log_Log_Epochs : DFn := ⟨1,
 .seq (.ops [S 2 (.mv (.v .nilp))])
 (.seq (.seq (.ops [S 3 (.mv (.t 0)),
   S 4 (.bin .eql .ptr (.t 3) (.v .nilp))])
 (.cond (.t 4)
  (.seq (.ops [S 2 (.mv (.v .nilp))])
  (.ret))
  (.skip)))
 (.seq (.ops [S 5 (.mv (.t 0)),
   S 6 (.nz (.t 5)),
   S 7 (.fld 0 (.t 6)),
   S 8 (.fld 8 (.t 7)),
   S 9 (.ld false 1 (.t 8)),
   S 2 (.mv (.t 9))])
 (.ret))),
 [.tmp 2], false, false, false⟩
/- (*sibyl/epoch.Epochs).Pin -/
def d_epoch_Epochs_Pin : DFn := ⟨2,
 .seq (.ops [S 4 (.mv (xB false))])
 (.seq (.seq (.ops [S 5 (.mv (.t 0)),
   S 6 (.mv (.t 1)),
   S 7 (.call n_epoch_Epochs_is [(.t 5), (.t 6)]),
   S 8 (.un .not (.t 7)),
   S 9 (.mv (.t 8)),
   ⟨(some 10), .mv (.t 0), (some (9, false)), []⟩,
   ⟨(some 11), .mv (.t 1), (some (9, false)), []⟩,
   ⟨(some 12), .nz (.t 10), (some (9, false)), []⟩,
   ⟨(some 13), .fld 2 (.t 12), (some (9, false)), []⟩,
   ⟨(some 14), .ixp 16 1 (.t 13) (.t 11), (some (9, false)), []⟩,
   ⟨(some 15), .ld false 1 (.t 14), (some (9, false)), []⟩,
   ⟨(some 16), .bin .neq .none (.t 15) (xI (-1)), (some (9, false)), []⟩,
   S 17 (.pick (.t 9) (xB true) (.t 16))])
 (.cond (.t 17)
  (.seq (.ops [S 4 (.mv (xB false))])
  (.ret))
  (.skip)))
 (.seq (.ops [S 18 (.mv (.t 0)),
   S 19 (.mv (.t 1)),
   S 20 (.mv (.t 0)),
   S 21 (.nz (.t 20)),
   S 22 (.fld 0 (.t 21)),
   S 23 (.ld false 1 (.t 22)),
   S 24 (.nz (.t 18)),
   S 25 (.fld 2 (.t 24)),
   S 26 (.ixp 16 1 (.t 25) (.t 19)),
   E (.st 1 (.t 26) (.t 23))])
 (.seq (.ops [S 4 (.mv (xB true))])
 (.ret)))),
 [.tmp 4], false, false, false⟩
/- (*sibyl/worker.Worker).apply -/
def d_worker_Worker_apply : DFn := ⟨1,
 .seq (.ops [S 2 (.mv (.t 0)),
   S 3 (.mv (.t 0)),
   S 4 (.nz (.t 3)),
   S 5 (.fld 2 (.t 4)),
   S 6 (.ld false 1 (.t 5)),
   S 7 (.mv (.t 0)),
   S 8 (.nz (.t 7)),
   S 9 (.fld 0 (.t 8)),
   S 10 (.ld false 1 (.t 9)),
   S 11 (.mv (.t 0)),
   S 12 (.nz (.t 11)),
   S 13 (.fld 1 (.t 12)),
   S 14 (.ld false 1 (.t 13)),
   S 16 (.mv (.t 0)),
   S 17 (.nz (.t 16)),
   S 18 (.fld 4 (.t 17)),
   S 19 (.ld true 14 (.t 18)),
   S 20 (.mv (.t 0)),
   S 21 (.nz (.t 20)),
   S 22 (.fld 0 (.t 21)),
   S 23 (.ld false 1 (.t 22)),
   ⟨(some 15), .call n_log_Log_Cursor [(.t 10), (.t 14)], none, [(23, .ld false 1 (.t 22), none), (19, .ld true 14 (.t 18), none), (6, .ld false 1 (.t 5), none)]⟩,
   ⟨(some 24), .call n_log_Log_Store [(.t 23)], none, [(19, .ld true 14 (.t 18), none), (6, .ld false 1 (.t 5), none)]⟩,
   S 25 (.mkf (.func 60) [(.t 24)] []),
   S 26 (.call n_shard_Shard_Apply [(.t 6), (.t 15), (.t 19), (.t 25)]),
   S 27 (.nz (.t 2)),
   S 28 (.fld 18 (.t 27)),
   E (.st 4 (.t 28) (.t 26))])
 (.seq (.ops [S 29 (.mv (.t 0)),
   S 30 (.mv (.t 0)),
   S 31 (.nz (.t 30)),
   S 32 (.fld 18 (.t 31)),
   S 33 (.fld 2 (.t 32)),
   S 34 (.ld false 1 (.t 33)),
   S 35 (.nz (.t 29)),
   S 36 (.fld 22 (.t 35)),
   E (.st 1 (.t 36) (.t 34))])
 (.ops [S 37 (.mv (.t 0)),
   S 38 (.call n_worker_Worker_ups [(.t 37)])])),
 [], false, false, false⟩
/- (*sibyl/log.Log).Collect$1 -/
def d_log_Log_Collect_1 : DFn := ⟨3,
 .seq (.ops [S 4 (.mv (xB false))])
 (.seq (.ops [S 5 (.mv (.t 0)),
   S 6 (.bin .neq .none (.t 5) (xI (-1))),
   S 7 (.mv (.t 6)),
   ⟨(some 8), .mv (.t 0), (some (7, true)), []⟩,
   ⟨(some 9), .ld false 1 (.t 1), (some (7, true)), []⟩,
   ⟨(some 10), .call n_log_Log_Low [(.t 9)], (some (7, true)), []⟩,
   ⟨(some 11), .bin .leq .none (.t 8) (.t 10), (some (7, true)), []⟩,
   ⟨(some 12), .mv (.t 11), (some (7, true)), []⟩,
   ⟨(some 13), .fld 0 (.t 2), (some (12, false)), []⟩,
   ⟨(some 14), .ld false 1 (.t 13), (some (12, false)), []⟩,
   ⟨(some 15), .bin .eql .none (.t 14) (xI 5), (some (12, false)), []⟩,
   ⟨(some 16), .pick (.t 12) (xB true) (.t 15), (some (7, true)), []⟩,
   S 17 (.pick (.t 7) (.t 16) (xB false)),
   S 4 (.mv (.t 17))])
 (.ret)),
 [.tmp 4], false, false, false⟩
/- slices.ContainsFunc[[]int,int] -/
def d_slices_ContainsFunc : DFn := ⟨2,
 .seq (.ops [S 4 (.mv (xB false))])
 (.seq (.ops [S 5 (.mv (.t 0)),
   S 6 (.mv (.t 1)),
   S 7 (.call n_slices_IndexFunc [(.t 5), (.t 6)]),
   S 8 (.bin .geq .none (.t 7) (xI 0)),
   S 4 (.mv (.t 8))])
 (.ret)),
 [.tmp 4], false, false, false⟩
/- (*sibyl/ring.Ring[sibyl/api.Out]).Get -/
def d_ring_Ring_Get_54 : DFn := ⟨2,
 .seq (.ops [S 4 (.new true [(.full []), (.full []), (.full []), (.full [])]),
   S 5 (.mv (xB false))])
 (.seq (.ops [S 8 (.mv (.t 0)),
   S 9 (.mv (.t 1)),
   S 10 (.call n_ring_Ring_at_63 [(.t 8), (.t 9)]),
   S 6 (.mv (.t 10))])
 (.seq (.seq (.ops [S 11 (.mv (.t 6)),
   S 12 (.bin .eql .ptr (.t 11) (.v .nilp))])
 (.cond (.t 12)
  (.seq (.ops [S 7 (.new true [(.full []), (.full []), (.full []), (.full [])])])
  (.seq (.ops [S 13 (.ld true 4 (.t 7)),
    E (.st 4 (.t 4) (.t 13)),
    S 5 (.mv (xB false))])
  (.ret)))
  (.skip)))
 (.seq (.ops [S 14 (.mv (.t 6)),
   S 15 (.nz (.t 14)),
   S 16 (.fld 0 (.t 15)),
   S 17 (.ld true 4 (.t 16)),
   S 18 (.mv (.t 6)),
   S 19 (.nz (.t 18)),
   S 20 (.fld 4 (.t 19)),
   S 21 (.ld false 1 (.t 20)),
   ⟨none, .st 4 (.t 4) (.t 17), none, [(21, .ld false 1 (.t 20), none)]⟩,
   S 5 (.mv (.t 21))])
 (.ret)))),
 [.cell 4 true 4, .tmp 5], false, false, false⟩
/- (*sibyl/queue.Desk).Do -/
def d_queue_Desk_Do : DFn := ⟨4,
 .seq (.ops [S 6 (.box true 14 (.t 2)),
   S 8 (.new true [(eI 0), (eI 0), (.full [])]),
   S 9 (.nils 2 true)])
 (.seq (.seq (.ops [S 14 (.mv (.t 0)),
   S 15 (.bin .eql .ptr (.t 14) (.v .nilp))])
 (.cond (.t 15)
  (.seq (.ops [S 16 (.build [(eI 0), (eI 0), (.full [])] [(0, 1, (xI 1))]),
    E (.st 3 (.t 8) (.t 16)),
    S 9 (.nils 2 true)])
  (.ret))
  (.skip)))
 (.seq (.seq (.ops [S 17 (.fld 0 (.t 6)),
   S 18 (.ld false 1 (.t 17))])
 (.block 0 (.seq (.ops [S 20 (.bin .eql .none (.t 18) (xI 2)),
    S 19 (.mv (.t 20))])
  (.cond (.t 19)
   (.seq (.seq (.ops [S 21 (.mv (.t 0)),
     S 22 (.nz (.t 21)),
     S 23 (.fld 7 (.t 22)),
     S 24 (.ld false 1 (.t 23)),
     S 25 (.len 2 (.t 24)),
     S 26 (.mv (.t 0)),
     S 27 (.nz (.t 26)),
     S 28 (.fld 0 (.t 27)),
     S 29 (.fld 3 (.t 28)),
     S 30 (.ld false 1 (.t 29)),
     S 31 (.bin .geq .none (.t 25) (.t 30))])
   (.cond (.t 31)
    (.seq (.ops [S 32 (.build [(eI 0), (eI 0), (.full [])] [(0, 1, (xI 16))]),
      E (.st 3 (.t 8) (.t 32)),
      S 9 (.nils 2 true)])
    (.ret))
    (.skip)))
   (.seq (.ops [S 33 (.mv (.t 0)),
     S 34 (.nz (.t 33)),
     S 35 (.fld 7 (.t 34)),
     S 36 (.ld false 1 (.t 35)),
     S 37 (.mv (.t 1)),
     S 38 (.build [(.full []), (eB false)] []),
     S 39 (.box true 2 (.t 38)),
     E (.upd .int (.t 36) (.t 37) (.t 39))])
   (.seq (.ops [S 40 (.mv (.t 1)),
     S 41 (.build [(eI 0), (eI 0), (.full [])] [(1, 1, (.t 40))]),
     E (.st 3 (.t 8) (.t 41)),
     S 9 (.nils 2 true)])
   (.ret))))
   (.seq (.ops [S 43 (.bin .eql .none (.t 18) (xI 3)),
     S 42 (.mv (.t 43))])
   (.cond (.t 42)
    (.seq (.ops [S 44 (.mv (.t 0)),
      S 45 (.nz (.t 44)),
      S 46 (.fld 7 (.t 45)),
      S 47 (.ld false 1 (.t 46)),
      S 48 (.fld 1 (.t 6)),
      S 49 (.ld false 1 (.t 48)),
      S 50 (.look .int .nilp false (.t 47) (.t 49)),
      S 10 (.mv (.t 50))])
    (.seq (.seq (.ops [S 51 (.mv (.t 10)),
      S 52 (.bin .eql .ptr (.t 51) (.v .nilp))])
    (.cond (.t 52)
     (.seq (.ops [S 53 (.build [(eI 0), (eI 0), (.full [])] [(0, 1, (xI 15))]),
       E (.st 3 (.t 8) (.t 53)),
       S 9 (.nils 2 true)])
     (.ret))
     (.skip)))
    (.seq (.ops [S 11 (.nils 2 true)])
    (.seq (.seq (.ops [S 54 (.mv (.t 10)),
      S 55 (.nz (.t 54)),
      S 56 (.fld 0 (.t 55)),
      S 57 (.ld false 1 (.t 56)),
      S 58 (.len 0 (.t 57)),
      S 59 (.mv (xI 0))])
    (.block 1 (.loop [0, 6, 8, 11, 57, 58, 59] (.seq (.ops [S 60 (.bin .lss .none (.t 59) (.t 58))])
      (.seq (.cond (.t 60)
       (.skip)
       (.exit 1))
      (.seq (.block 2 (.seq (.ops [S 61 (.ixa 2 (.t 57) (.t 59)),
         S 62 (.ld true 2 (.t 61)),
         S 13 (.new true [(.full []), (.full [])]),
         E (.st 2 (.t 13) (.t 62))])
       (.ops [S 63 (.mv (.t 11)),
         S 64 (.fld 1 (.t 13)),
         S 65 (.ld false 1 (.t 64)),
         S 66 (.app 2 true 16 (.t 63) (.t 65)),
         S 11 (.mv (.t 66))])))
      (.ops [S 67 (.bin .add .none (.t 59) (xI 1)),
        S 59 (.mv (.t 67))])))))))
    (.seq (.ops [S 68 (.mv (.t 0)),
      S 69 (.nz (.t 68)),
      S 70 (.fld 7 (.t 69)),
      S 71 (.ld false 1 (.t 70)),
      S 72 (.fld 1 (.t 6)),
      S 73 (.ld false 1 (.t 72)),
      E (.del .int (.t 71) (.t 73))])
    (.seq (.ops [S 74 (.build [(eI 0), (eI 0), (.full [])] []),
      S 75 (.mv (.t 11)),
      E (.st 3 (.t 8) (.t 74)),
      S 9 (.mv (.t 75))])
    (.ret)))))))
    (.seq (.ops [S 77 (.bin .eql .none (.t 18) (xI 1)),
      S 76 (.mv (.t 77))])
    (.cond (.t 76)
     (.seq (.ops [S 78 (.mv (.t 1)),
       S 79 (.build [(eI 0), (eI 0), (.full [])] [(1, 1, (.t 78))]),
       S 80 (.mv (.t 0)),
       S 81 (.ld true 14 (.t 6)),
       S 82 (.mv (.t 3)),
       S 83 (.call 64 [(.t 80), (.t 81), (.t 82)]),
       E (.st 3 (.t 8) (.t 79)),
       S 9 (.mv (.t 83))])
     (.ret))
     (.seq (.ops [S 85 (.bin .eql .none (.t 18) (xI 4)),
       S 84 (.mv (.t 85))])
     (.cond (.t 84)
      (.seq (.ops [S 86 (.mv (.t 0)),
        S 87 (.ld true 14 (.t 6)),
        S 88 (.call 65 [(.t 86), (.t 87)]),
        S 89 (.ext (.t 88) 0),
        S 90 (.ext (.t 88) 1),
        E (.st 3 (.t 8) (.t 89)),
        S 9 (.mv (.t 90))])
      (.ret))
      (.seq (.ops [S 92 (.bin .eql .none (.t 18) (xI 5)),
        S 91 (.mv (.t 92))])
      (.cond (.t 91)
       (.seq (.ops [S 93 (.mv (.t 1)),
         S 94 (.build [(eI 0), (eI 0), (.full [])] [(1, 1, (.t 93))]),
         E (.st 3 (.t 8) (.t 94)),
         S 9 (.nils 2 true)])
       (.ret))
       (.skip)))))))))))))
 (.seq (.ops [S 95 (.build [(eI 0), (eI 0), (.full [])] [(0, 1, (xI 1))]),
   E (.st 3 (.t 8) (.t 95)),
   S 9 (.nils 2 true)])
 (.ret)))),
 [.cell 8 true 3, .tmp 9], false, false, false⟩
/- (*sibyl/merger.Merger).goOn -/
def d_merger_Merger_goOn : DFn := ⟨1,
 .seq (.ops [S 2 (.mv (.t 0)),
   S 3 (.mv (.t 0)),
   S 4 (.mkf (.func n_merger_Merger_reply) [(.t 3)] []),
   S 5 (.nz (.t 2)),
   S 6 (.fld 3 (.t 5)),
   E (.st 1 (.t 6) (.t 4))])
 (.seq (.ops [S 7 (.mv (.t 0)),
   S 8 (.nz (.t 7)),
   S 9 (.fld 8 (.t 8)),
   S 10 (.ld false 1 (.t 9)),
   S 11 (.len 0 (.t 10)),
   S 12 (.bin .gtr .none (.t 11) (xI 0))])
 (.cond (.t 12)
  (.ops [S 13 (.mv (.t 0)),
    S 14 (.mv (.t 0)),
    S 15 (.mkf (.func 67) [(.t 14)] []),
    S 16 (.nz (.t 13)),
    S 17 (.fld 3 (.t 16)),
    E (.st 1 (.t 17) (.t 15))])
  (.skip))),
 [], false, false, false⟩
/- (*sibyl/epoch.Epochs).is -/
def d_epoch_Epochs_is : DFn := ⟨2,
 .seq (.ops [S 4 (.mv (xB false))])
 (.seq (.ops [S 5 (.mv (.t 0)),
   S 6 (.bin .neq .ptr (.t 5) (.v .nilp)),
   S 7 (.mv (.t 6)),
   ⟨(some 8), .mv (.t 1), (some (7, true)), []⟩,
   ⟨(some 9), .bin .geq .none (.t 8) (xI 0), (some (7, true)), []⟩,
   S 10 (.pick (.t 7) (.t 9) (xB false)),
   S 11 (.mv (.t 10)),
   ⟨(some 12), .mv (.t 1), (some (11, true)), []⟩,
   ⟨(some 13), .mv (.t 0), (some (11, true)), []⟩,
   ⟨(some 14), .nz (.t 13), (some (11, true)), []⟩,
   ⟨(some 15), .fld 1 (.t 14), (some (11, true)), []⟩,
   ⟨(some 16), .ld false 1 (.t 15), (some (11, true)), []⟩,
   ⟨(some 17), .bin .lss .none (.t 12) (.t 16), (some (11, true)), []⟩,
   S 18 (.pick (.t 11) (.t 17) (xB false)),
   S 4 (.mv (.t 18))])
 (.ret)),
 [.tmp 4], false, false, false⟩
/- (*sibyl/shard.Shard).Apply -/
def d_shard_Shard_Apply : DFn := ⟨4,
 .seq (.ops [S 6 (.box true 14 (.t 2)),
   S 8 (.new true [(.full []), (.full []), (.full []), (.full [])])])
 (.seq (.seq (.ops [S 10 (.mv (.t 0)),
   S 11 (.bin .eql .ptr (.t 10) (.v .nilp)),
   S 12 (.mv (.t 11)),
   ⟨(some 13), .mv (.t 1), (some (12, false)), []⟩,
   ⟨(some 14), .mv (.t 0), (some (12, false)), []⟩,
   ⟨(some 15), .nz (.t 14), (some (12, false)), []⟩,
   ⟨(some 16), .fld 8 (.t 15), (some (12, false)), []⟩,
   ⟨(some 17), .ld false 1 (.t 16), (some (12, false)), []⟩,
   ⟨(some 18), .bin .leq .none (.t 13) (.t 17), (some (12, false)), []⟩,
   S 19 (.pick (.t 12) (xB true) (.t 18))])
 (.cond (.t 19)
  (.seq (.ops [S 20 (.build [(.full []), (.full []), (.full []), (.full [])] []),
    E (.st 4 (.t 8) (.t 20))])
  (.ret))
  (.skip)))
 (.seq (.ops [S 21 (.mv (.t 0)),
   S 22 (.mv (.t 1)),
   S 23 (.nz (.t 21)),
   S 24 (.fld 8 (.t 23)),
   E (.st 1 (.t 24) (.t 22))])
 (.seq (.ops [S 9 (.mv (.v .nilf))])
 (.seq (.seq (.ops [S 25 (.fld 0 (.t 6)),
   S 26 (.ld false 1 (.t 25))])
 (.block 0 (.seq (.ops [S 29 (.bin .eql .none (.t 26) (xI 2)),
    S 28 (.mv (.t 29))])
  (.cond (.t 28)
   (.ops [S 9 (.mv (.v (.fn (.func 68) [] [])))])
   (.seq (.ops [S 31 (.bin .eql .none (.t 26) (xI 3)),
     S 30 (.mv (.t 31))])
   (.cond (.t 30)
    (.ops [S 9 (.mv (.v (.fn (.func 69) [] [])))])
    (.seq (.ops [S 33 (.bin .eql .none (.t 26) (xI 1)),
      S 32 (.mv (.t 33))])
    (.cond (.t 32)
     (.ops [S 9 (.mv (.v (.fn (.func 70) [] [])))])
     (.seq (.ops [S 27 (.build [(.full []), (.full []), (.full []), (.full [])] []),
       E (.st 4 (.t 8) (.t 27))])
     (.ret))))))))))
 (.seq (.ops [S 34 (.mv (.t 9)),
   S 35 (.mv (.t 0)),
   S 36 (.mv (.t 1)),
   S 37 (.ld true 14 (.t 6)),
   S 38 (.mv (.t 3)),
   S 39 (.callv (.t 34) [(.t 35), (.t 36), (.t 37), (.t 38)]),
   E (.st 4 (.t 8) (.t 39))])
 (.ret)))))),
 [.cell 8 true 4], false, false, false⟩
/- (*sibyl/log.Log).Store -/
def d_log_Log_Store : DFn := ⟨1,
 .seq (.ops [S 2 (.mv (.v .nilp))])
 (.seq (.seq (.ops [S 3 (.mv (.t 0)),
   S 4 (.bin .eql .ptr (.t 3) (.v .nilp))])
 (.cond (.t 4)
  (.seq (.ops [S 2 (.mv (.v .nilp))])
  (.ret))
  (.skip)))
 (.seq (.ops [S 5 (.mv (.t 0)),
   S 6 (.nz (.t 5)),
   S 7 (.fld 0 (.t 6)),
   S 8 (.fld 7 (.t 7)),
   S 9 (.ld false 1 (.t 8)),
   S 2 (.mv (.t 9))])
 (.ret))),
 [.tmp 2], false, false, false⟩
/- (*sibyl/worker.Worker).ups -/
def d_worker_Worker_ups : DFn := ⟨1,
 .seq (.seq (.ops [S 2 (.mv (.t 0)),
   S 3 (.nz (.t 2)),
   S 4 (.fld 22 (.t 3)),
   S 5 (.ld false 1 (.t 4)),
   S 6 (.len 0 (.t 5)),
   S 7 (.bin .gtr .none (.t 6) (xI 0))])
 (.cond (.t 7)
  (.seq (.ops [S 8 (.mv (.t 0)),
    S 9 (.mv (.t 0)),
    S 10 (.mkf (.func 73) [(.t 9)] []),
    S 11 (.nz (.t 8)),
    S 12 (.fld 3 (.t 11)),
    E (.st 1 (.t 12) (.t 10))])
  (.ret))
  (.skip)))
 (.seq (.ops [S 13 (.mv (.t 0)),
   S 14 (.mv (.t 0)),
   S 15 (.nz (.t 14)),
   S 16 (.fld 18 (.t 15)),
   S 17 (.fld 3 (.t 16)),
   S 18 (.ld false 1 (.t 17)),
   S 19 (.nz (.t 13)),
   S 20 (.fld 22 (.t 19)),
   E (.st 1 (.t 20) (.t 18))])
 (.ops [S 21 (.mv (.t 0)),
   S 22 (.call n_worker_Worker_downs [(.t 21)])])),
 [], false, false, false⟩
/- slices.IndexFunc[[]int,int] -/
def d_slices_IndexFunc : DFn := ⟨2,
 .seq (.ops [S 4 (.mv (xI 0))])
 (.seq (.seq (.ops [S 6 (.mv (.t 0)),
   S 7 (.len 0 (.t 6)),
   S 8 (.mv (xI 0))])
 (.block 0 (.loop [0, 1, 7, 8] (.seq (.ops [S 9 (.bin .lss .none (.t 8) (.t 7))])
   (.seq (.cond (.t 9)
    (.skip)
    (.exit 0))
   (.seq (.block 1 (.seq (.ops [S 10 (.mv (.t 8)),
      S 5 (.mv (.t 10))])
    (.seq (.ops [S 11 (.mv (.t 1)),
      S 12 (.mv (.t 0)),
      S 13 (.mv (.t 5)),
      S 14 (.ixa 1 (.t 12) (.t 13)),
      S 15 (.ld false 1 (.t 14)),
      S 16 (.callv (.t 11) [(.t 15)])])
    (.cond (.t 16)
     (.seq (.ops [S 17 (.mv (.t 5)),
       S 4 (.mv (.t 17))])
     (.ret))
     (.skip)))))
   (.ops [S 18 (.bin .add .none (.t 8) (xI 1)),
     S 8 (.mv (.t 18))])))))))
 (.seq (.ops [S 4 (.mv (xI (-1)))])
 (.ret))),
 [.tmp 4], false, false, false⟩
/- (*sibyl/ring.Ring[sibyl/api.Out]).at -/
def d_ring_Ring_at_63 : DFn := ⟨2,
 .seq (.ops [S 4 (.mv (.v .nilp))])
 (.seq (.seq (.ops [S 5 (.mv (.t 0)),
   S 6 (.bin .eql .ptr (.t 5) (.v .nilp)),
   S 7 (.mv (.t 6)),
   ⟨(some 8), .mv (.t 1), (some (7, false)), []⟩,
   ⟨(some 9), .mv (.t 0), (some (7, false)), []⟩,
   ⟨(some 10), .nz (.t 9), (some (7, false)), []⟩,
   ⟨(some 11), .fld 1 (.t 10), (some (7, false)), []⟩,
   ⟨(some 12), .ld false 1 (.t 11), (some (7, false)), []⟩,
   ⟨(some 13), .bin .lss .none (.t 8) (.t 12), (some (7, false)), []⟩,
   S 14 (.pick (.t 7) (xB true) (.t 13)),
   S 15 (.mv (.t 14)),
   ⟨(some 16), .mv (.t 1), (some (15, false)), []⟩,
   ⟨(some 17), .mv (.t 0), (some (15, false)), []⟩,
   ⟨(some 18), .nz (.t 17), (some (15, false)), []⟩,
   ⟨(some 19), .fld 1 (.t 18), (some (15, false)), []⟩,
   ⟨(some 20), .ld false 1 (.t 19), (some (15, false)), []⟩,
   ⟨(some 21), .bin .sub .none (.t 16) (.t 20), (some (15, false)), []⟩,
   ⟨(some 22), .mv (.t 0), (some (15, false)), []⟩,
   ⟨(some 23), .nz (.t 22), (some (15, false)), []⟩,
   ⟨(some 24), .fld 0 (.t 23), (some (15, false)), []⟩,
   ⟨(some 25), .ld false 1 (.t 24), (some (15, false)), []⟩,
   ⟨(some 26), .len 0 (.t 25), (some (15, false)), []⟩,
   ⟨(some 27), .bin .geq .none (.t 21) (.t 26), (some (15, false)), []⟩,
   S 28 (.pick (.t 15) (xB true) (.t 27))])
 (.cond (.t 28)
  (.seq (.ops [S 4 (.mv (.v .nilp))])
  (.ret))
  (.skip)))
 (.seq (.ops [S 29 (.mv (.t 0)),
   S 30 (.nz (.t 29)),
   S 31 (.fld 0 (.t 30)),
   S 32 (.ld false 1 (.t 31)),
   S 33 (.mv (.t 1)),
   S 34 (.mv (.t 0)),
   S 35 (.nz (.t 34)),
   S 36 (.fld 0 (.t 35)),
   S 37 (.ld false 1 (.t 36)),
   S 38 (.len 0 (.t 37)),
   S 39 (.bin .rem .none (.t 33) (.t 38)),
   S 40 (.ixa 5 (.t 32) (.t 39)),
   S 4 (.mv (.t 40))])
 (.ret))),
 [.tmp 4], false, false, false⟩
/- (*sibyl/merger.Merger).reply -/
def d_merger_Merger_reply : DFn := ⟨1,
 .seq (.ops [S 2 (.mv (.t 0)),
   S 3 (.nz (.t 2)),
   S 4 (.fld 0 (.t 3)),
   S 5 (.ld false 1 (.t 4)),
   S 6 (.mv (.t 0)),
   S 7 (.nz (.t 6)),
   S 8 (.fld 5 (.t 7)),
   S 9 (.ld true 3 (.t 8)),
   S 10 (.call n_log_Log_Reply [(.t 5), (.t 9)])])
 (.ops [S 11 (.mv (.t 0)),
   S 12 (.mv (.t 0)),
   S 13 (.mkf (.func n_merger_Merger_advance) [(.t 12)] []),
   S 14 (.nz (.t 11)),
   S 15 (.fld 3 (.t 14)),
   E (.st 1 (.t 15) (.t 13))]),
 [], false, false, false⟩
/- (*sibyl/shard.Shard).register -/
def d_shard_Shard_register : DFn := ⟨4,
 .seq (.ops [S 6 (.box true 14 (.t 2)),
   S 8 (.new true [(.full []), (.full []), (.full []), (.full [])])])
 (.seq (.seq (.ops [S 9 (.fld 11 (.t 6)),
   S 10 (.ld true 3 (.t 9)),
   S 11 (.call n_table_Right [(.t 10)]),
   S 12 (.un .not (.t 11)),
   S 13 (.mv (.t 12)),
   ⟨(some 14), .mv (.t 0), (some (13, false)), []⟩,
   ⟨(some 15), .nz (.t 14), (some (13, false)), []⟩,
   ⟨(some 16), .fld 9 (.t 15), (some (13, false)), []⟩,
   ⟨(some 17), .ld false 1 (.t 16), (some (13, false)), []⟩,
   ⟨(some 18), .mv (.t 1), (some (13, false)), []⟩,
   ⟨(some 20), .mv (.t 0), (some (13, false)), []⟩,
   ⟨(some 21), .nz (.t 20), (some (13, false)), []⟩,
   ⟨(some 22), .fld 0 (.t 21), (some (13, false)), []⟩,
   ⟨(some 23), .fld 3 (.t 22), (some (13, false)), []⟩,
   ⟨(some 24), .ld false 1 (.t 23), (some (13, false)), []⟩,
   ⟨(some 19), .call n_roll_Roll_Len [(.t 17), (.t 18)], (some (13, false)), [(24, .ld false 1 (.t 23), (some (13, false)))]⟩,
   ⟨(some 25), .bin .geq .none (.t 19) (.t 24), (some (13, false)), []⟩,
   S 26 (.pick (.t 13) (xB true) (.t 25))])
 (.cond (.t 26)
  (.seq (.ops [S 27 (.build [(.full []), (.full []), (.full []), (.full [])] []),
    E (.st 4 (.t 8) (.t 27))])
  (.ret))
  (.skip)))
 (.seq (.ops [S 29 (.mv (.t 0)),
   S 30 (.mv (.t 0)),
   S 31 (.nz (.t 30)),
   S 32 (.fld 9 (.t 31)),
   S 33 (.ld false 1 (.t 32)),
   S 34 (.mv (.t 1)),
   S 35 (.fld 11 (.t 6)),
   S 36 (.ld true 3 (.t 35)),
   S 37 (.call n_roll_Roll_Add [(.t 33), (.t 34), (.t 36)]),
   S 28 (.mv (.t 37)),
   S 38 (.ext (.t 28) 0),
   S 39 (.ext (.t 28) 1),
   S 40 (.nz (.t 29)),
   S 41 (.fld 9 (.t 40)),
   E (.st 1 (.t 41) (.t 38))])
 (.seq (.ops [S 42 (.mv (.t 0)),
   S 43 (.nz (.t 42)),
   S 44 (.fld 10 (.t 43)),
   S 45 (.ld false 1 (.t 44)),
   S 46 (.mv (.t 1)),
   S 47 (.fld 11 (.t 6)),
   S 48 (.ld true 3 (.t 47)),
   S 49 (.mv (.t 0)),
   S 50 (.nz (.t 49)),
   S 51 (.fld 0 (.t 50)),
   S 52 (.fld 4 (.t 51)),
   S 53 (.ld false 1 (.t 52)),
   ⟨(some 54), .call n_runs_New [(.t 48), (.t 53)], none, [(45, .ld false 1 (.t 44), none)]⟩,
   E (.upd .int (.t 45) (.t 46) (.t 54))])
 (.seq (.ops [S 55 (.build [(.full []), (.full []), (.full []), (.full [])] []),
   E (.st 4 (.t 8) (.t 55))])
 (.ret))))),
 [.cell 8 true 4], false, false, false⟩
/- (*sibyl/worker.Worker).downs -/
def d_worker_Worker_downs : DFn := ⟨1,
 .seq (.ops [S 2 (.mv (.t 0)),
   S 3 (.mv (.t 0)),
   S 4 (.mkf (.func n_worker_Worker_unpin) [(.t 3)] []),
   S 5 (.nz (.t 2)),
   S 6 (.fld 3 (.t 5)),
   E (.st 1 (.t 6) (.t 4))])
 (.seq (.ops [S 7 (.mv (.t 0)),
   S 8 (.nz (.t 7)),
   S 9 (.fld 22 (.t 8)),
   S 10 (.ld false 1 (.t 9)),
   S 11 (.len 0 (.t 10)),
   S 12 (.bin .gtr .none (.t 11) (xI 0))])
 (.cond (.t 12)
  (.ops [S 13 (.mv (.t 0)),
    S 14 (.mv (.t 0)),
    S 15 (.mkf (.func 95) [(.t 14)] []),
    S 16 (.nz (.t 13)),
    S 17 (.fld 3 (.t 16)),
    E (.st 1 (.t 17) (.t 15))])
  (.skip))),
 [], false, false, false⟩
/- (*sibyl/log.Log).Reply -/
def d_log_Log_Reply : DFn := ⟨2,
 .seq (.ops [S 3 (.box true 3 (.t 1)),
   S 4 (.mv (xB false))])
 (.seq (.ops [S 15 (.mv (.t 0)),
   S 16 (.call n_log_Log_Collect [(.t 15)]),
   S 14 (.mv (.t 16)),
   S 17 (.ext (.t 14) 0),
   S 18 (.ext (.t 14) 1),
   S 5 (.mv (.t 17)),
   S 6 (.mv (.t 18))])
 (.seq (.seq (.ops [S 19 (.mv (.t 6)),
   S 20 (.un .not (.t 19))])
 (.cond (.t 20)
  (.seq (.ops [S 4 (.mv (xB false))])
  (.ret))
  (.skip)))
 (.seq (.ops [S 21 (.mv (.t 0)),
   S 22 (.call n_log_Log_Low [(.t 21)]),
   S 7 (.mv (.t 22))])
 (.seq (.ops [S 24 (.mv (.t 0)),
   S 25 (.nz (.t 24)),
   S 26 (.fld 11 (.t 25)),
   S 27 (.ld false 1 (.t 26)),
   S 28 (.call n_ring_Ring_Drop [(.t 27)]),
   S 23 (.mv (.t 28)),
   S 29 (.ext (.t 23) 0),
   S 30 (.ext (.t 23) 1),
   S 8 (.new true [(eI 0), (eI 0), (eI 0), (eI 0), (eI 0), (eI 0), (eI 0), (eI 0), (eI 0), (eI 0), (eI 0), (.full []), (eI 0), (eB false)]),
   E (.st 14 (.t 8) (.t 29)),
   S 9 (.mv (.t 30))])
 (.seq (.seq (.ops [S 31 (.fld 0 (.t 8)),
   S 32 (.ld false 1 (.t 31)),
   S 33 (.bin .neq .none (.t 32) (xI 1))])
 (.cond (.t 33)
  (.ops [S 34 (.mv (.t 0)),
    S 35 (.nz (.t 34)),
    S 36 (.fld 14 (.t 35)),
    S 37 (.ld false 1 (.t 36)),
    S 38 (.mv (.t 7)),
    S 39 (.ld true 3 (.t 3)),
    E (.upd .int (.t 37) (.t 38) (.t 39))])
  (.skip)))
 (.seq (.seq (.ops [S 40 (.mv (.t 0)),
   S 41 (.nz (.t 40)),
   S 42 (.fld 13 (.t 41)),
   S 43 (.ld false 1 (.t 42)),
   S 44 (.len 0 (.t 43)),
   S 45 (.mv (xI 0))])
 (.block 0 (.loop [7, 43, 44, 45] (.seq (.ops [S 46 (.bin .lss .none (.t 45) (.t 44))])
   (.seq (.cond (.t 46)
    (.skip)
    (.exit 0))
   (.seq (.block 1 (.seq (.ops [S 47 (.ixa 1 (.t 43) (.t 45)),
      S 48 (.ld false 1 (.t 47)),
      S 11 (.mv (.t 48))])
    (.seq (.ops [S 50 (.mv (.t 11)),
      S 51 (.call n_ring_Ring_Drop_100 [(.t 50)]),
      S 49 (.mv (.t 51)),
      S 52 (.ext (.t 49) 0),
      S 53 (.ext (.t 49) 1),
      S 12 (.new true [(.full []), (.full []), (.full []), (.full [])]),
      E (.st 4 (.t 12) (.t 52)),
      S 13 (.mv (.t 53))])
    (.seq (.ops [S 54 (.mv (.t 13)),
      S 55 (.un .not (.t 54))])
    (.cond (.t 55)
     (.seq (.ops [S 56 (.mv (.t 11)),
       S 57 (.mv (.t 7)),
       S 58 (.build [(.full []), (.full []), (.full []), (.full [])] []),
       S 59 (.call n_ring_Ring_Put_101 [(.t 56), (.t 57), (.t 58)])])
     (.ops [S 60 (.mv (.t 11)),
       S 61 (.call n_ring_Ring_Drop_100 [(.t 60)])]))
     (.skip))))))
   (.ops [S 62 (.bin .add .none (.t 45) (xI 1)),
     S 45 (.mv (.t 62))])))))))
 (.seq (.ops [S 4 (.mv (xB true))])
 (.ret)))))))),
 [.tmp 4], false, false, false⟩
/- (*sibyl/merger.Merger).advance -/
def d_merger_Merger_advance : DFn := ⟨1,
 .seq (.ops [S 2 (.mv (.t 0)),
   S 3 (.nz (.t 2)),
   S 4 (.fld 0 (.t 3)),
   S 5 (.ld false 1 (.t 4)),
   S 6 (.call n_log_Log_Epochs [(.t 5)]),
   S 7 (.call n_epoch_Epochs_Advance [(.t 6)])])
 (.ops [S 8 (.mv (.t 0)),
   S 9 (.mv (.t 0)),
   S 10 (.mkf (.func n_merger_Merger_ripe) [(.t 9)] []),
   S 11 (.nz (.t 8)),
   S 12 (.fld 3 (.t 11)),
   E (.st 1 (.t 12) (.t 10))]),
 [], false, false, false⟩
/- sibyl/table.Right -/
def d_table_Right : DFn := ⟨1,
 .seq (.ops [S 1 (.box true 3 (.t 0)),
   S 2 (.mv (xB false))])
 (.seq (.ops [S 7 (.fld 0 (.t 1)),
   S 8 (.ld false 1 (.t 7)),
   S 9 (.len 0 (.t 8)),
   S 3 (.new false [(eI 0)]),
   E (.st 1 (.t 3) (.t 9))])
 (.seq (.seq (.ops [S 10 (.ld false 1 (.t 3)),
   S 11 (.bin .lss .none (.t 10) (xI 1)),
   S 12 (.mv (.t 11)),
   ⟨(some 13), .ld false 1 (.t 3), (some (12, false)), []⟩,
   ⟨(some 14), .bin .gtr .none (.t 13) (xI 6), (some (12, false)), []⟩,
   S 15 (.pick (.t 12) (xB true) (.t 14)),
   S 16 (.mv (.t 15)),
   ⟨(some 17), .fld 1 (.t 1), (some (16, false)), []⟩,
   ⟨(some 18), .ld false 1 (.t 17), (some (16, false)), []⟩,
   ⟨(some 19), .bin .lss .none (.t 18) (xI 1), (some (16, false)), []⟩,
   S 20 (.pick (.t 16) (xB true) (.t 19)),
   S 21 (.mv (.t 20)),
   ⟨(some 22), .fld 1 (.t 1), (some (21, false)), []⟩,
   ⟨(some 23), .ld false 1 (.t 22), (some (21, false)), []⟩,
   ⟨(some 24), .bin .gtr .none (.t 23) (xI 8), (some (21, false)), []⟩,
   S 25 (.pick (.t 21) (xB true) (.t 24)),
   S 26 (.mv (.t 25)),
   ⟨(some 27), .fld 0 (.t 1), (some (26, false)), []⟩,
   ⟨(some 28), .ld false 1 (.t 27), (some (26, false)), []⟩,
   ⟨(some 29), .ld false 1 (.t 3), (some (26, false)), []⟩,
   ⟨(some 30), .bin .sub .none (.t 29) (xI 1), (some (26, false)), []⟩,
   ⟨(some 31), .ixa 4 (.t 28) (.t 30), (some (26, false)), []⟩,
   ⟨(some 32), .fld 3 (.t 31), (some (26, false)), []⟩,
   ⟨(some 33), .ld false 1 (.t 32), (some (26, false)), []⟩,
   ⟨(some 34), .len 0 (.t 33), (some (26, false)), []⟩,
   ⟨(some 35), .bin .gtr .none (.t 34) (xI 0), (some (26, false)), []⟩,
   S 36 (.pick (.t 26) (xB true) (.t 35))])
 (.cond (.t 36)
  (.seq (.ops [S 2 (.mv (xB false))])
  (.ret))
  (.skip)))
 (.seq (.seq (.ops [S 37 (.fld 0 (.t 1)),
   S 38 (.ld false 1 (.t 37)),
   S 39 (.len 0 (.t 38)),
   S 40 (.mv (xI 0))])
 (.block 0 (.loop [3, 38, 39, 40] (.seq (.ops [S 41 (.bin .lss .none (.t 40) (.t 39))])
   (.seq (.cond (.t 41)
    (.skip)
    (.exit 0))
   (.seq (.block 1 (.seq (.ops [S 42 (.mv (.t 40)),
      S 43 (.ixa 4 (.t 38) (.t 40)),
      S 44 (.ld true 4 (.t 43)),
      S 4 (.new false [(eI 0)]),
      S 5 (.new true [(eI 0), (eB false), (.full []), (.full [])]),
      E (.st 1 (.t 4) (.t 42)),
      E (.st 4 (.t 5) (.t 44))])
    (.seq (.ops [S 45 (.mkf (.func 105) [] [(.t 4), (.t 3)]),
      S 6 (.mv (.t 45))])
    (.seq (.ops [S 46 (.fld 0 (.t 5)),
      S 47 (.ld false 1 (.t 46)),
      S 48 (.call n_table_typed [(.t 47)]),
      S 49 (.un .not (.t 48)),
      S 50 (.mv (.t 49)),
      ⟨(some 51), .fld 2 (.t 5), (some (50, false)), []⟩,
      ⟨(some 52), .ld false 1 (.t 51), (some (50, false)), []⟩,
      ⟨(some 53), .ld false 1 (.t 4), (some (50, false)), []⟩,
      ⟨(some 54), .ld false 1 (.t 4), (some (50, false)), []⟩,
      ⟨(some 55), .call n_table_may [(.t 52), (.t 53), (.t 54)], (some (50, false)), []⟩,
      ⟨(some 56), .un .not (.t 55), (some (50, false)), []⟩,
      S 57 (.pick (.t 50) (xB true) (.t 56)),
      S 58 (.mv (.t 57)),
      ⟨(some 59), .fld 3 (.t 5), (some (58, false)), []⟩,
      ⟨(some 60), .ld false 1 (.t 59), (some (58, false)), []⟩,
      ⟨(some 61), .mv (.t 6), (some (58, false)), []⟩,
      ⟨(some 62), .call n_slices_ContainsFunc_108 [(.t 60), (.t 61)], (some (58, false)), []⟩,
      S 63 (.pick (.t 58) (xB true) (.t 62))])
    (.cond (.t 63)
     (.seq (.ops [S 2 (.mv (xB false))])
     (.ret))
     (.skip))))))
   (.ops [S 64 (.bin .add .none (.t 40) (xI 1)),
     S 40 (.mv (.t 64))])))))))
 (.seq (.ops [S 2 (.mv (xB true))])
 (.ret))))),
 [.tmp 2], false, false, false⟩
/- (*sibyl/roll.Roll).Len -/
def ra_roll_Roll_Len0 : DC :=
 .skip
def rb_roll_Roll_Len0 : DC :=
 .block 1 (.ops [S 10 (.ld false 1 (.t 5)),
    S 11 (.bin .add .none (.t 10) (xI 1)),
    E (.st 1 (.t 5) (.t 11))])
def d_roll_Roll_Len : DFn := ⟨2,
 .seq (.ops [S 4 (.mv (xI 0))])
 (.seq (.ops [S 5 (.new false [(eI 0)]),
   E (.st 1 (.t 5) (xI 0))])
 (.seq (.seq (.ops [S 6 (.mv (.t 0)),
   S 7 (.mv (.t 1)),
   S 8 (.call n_roll_Roll_Live [(.t 6), (.t 7)])])
 (.block 0 (.range [9] [5] (.t 8) ra_roll_Roll_Len0 rb_roll_Roll_Len0)))
 (.seq (.ops [S 12 (.ld false 1 (.t 5)),
   S 4 (.mv (.t 12))])
 (.ret)))),
 [.tmp 4], false, false, false⟩
/- (*sibyl/roll.Roll).Add -/
def d_roll_Roll_Add : DFn := ⟨3,
 .seq (.ops [S 5 (.box true 3 (.t 2)),
   S 6 (.mv (.v .nilp)),
   S 7 (.mv (xB false))])
 (.seq (.ops [S 9 (.mv (.t 0)),
   S 10 (.call n_roll_Roll_all [(.t 9)]),
   S 8 (.mv (.t 10))])
 (.seq (.seq (.ops [S 11 (.mv (.t 1)),
   S 12 (.bin .lss .none (.t 11) (xI 0)),
   S 13 (.mv (.t 12)),
   ⟨(some 14), .mv (.t 8), (some (13, false)), []⟩,
   ⟨(some 15), .len 0 (.t 14), (some (13, false)), []⟩,
   ⟨(some 16), .bin .gtr .none (.t 15) (xI 0), (some (13, false)), []⟩,
   ⟨(some 17), .mv (.t 16), (some (13, false)), []⟩,
   ⟨(some 18), .mv (.t 1), (some (17, true)), []⟩,
   ⟨(some 19), .mv (.t 8), (some (17, true)), []⟩,
   ⟨(some 20), .mv (.t 8), (some (17, true)), []⟩,
   ⟨(some 21), .len 0 (.t 20), (some (17, true)), []⟩,
   ⟨(some 22), .bin .sub .none (.t 21) (xI 1), (some (17, true)), []⟩,
   ⟨(some 23), .ixa 5 (.t 19) (.t 22), (some (17, true)), []⟩,
   ⟨(some 24), .fld 0 (.t 23), (some (17, true)), []⟩,
   ⟨(some 25), .ld false 1 (.t 24), (some (17, true)), []⟩,
   ⟨(some 26), .bin .leq .none (.t 18) (.t 25), (some (17, true)), []⟩,
   ⟨(some 27), .pick (.t 17) (.t 26) (xB false), (some (13, false)), []⟩,
   S 28 (.pick (.t 13) (xB true) (.t 27))])
 (.cond (.t 28)
  (.seq (.ops [S 29 (.mv (.t 0)),
    S 6 (.mv (.t 29)),
    S 7 (.mv (xB false))])
  (.ret))
  (.skip)))
 (.seq (.ops [S 30 (.mv (.t 8)),
   S 31 (.mv (.t 8)),
   S 32 (.len 0 (.t 31)),
   S 33 (.mv (.t 8)),
   S 34 (.len 0 (.t 33)),
   S 35 (.slc 5 (.t 30) none (some (.t 32)) (some (.t 34))),
   S 36 (.mv (.t 1)),
   S 37 (.ld true 3 (.t 5)),
   S 38 (.build [(eI 0), (eI 0), (.full []), (eI 0), (eB false)] [(0, 1, (.t 36)), (1, 1, (xI (-1))), (2, 3, (.t 37))]),
   S 39 (.lit 5 true [[(eI 0), (eI 0), (.full []), (eI 0), (eB false)]] [(0, (.t 38))]),
   S 40 (.app 5 true 56 (.t 35) (.t 39)),
   S 41 (.build [(.full [])] [(0, 1, (.t 40))]),
   S 42 (.box true 1 (.t 41)),
   S 6 (.mv (.t 42)),
   S 7 (.mv (xB true))])
 (.ret)))),
 [.tmp 6, .tmp 7], false, false, false⟩
/- sibyl/runs.New -/
def d_runs_New : DFn := ⟨2,
 .seq (.ops [S 2 (.box true 3 (.t 0)),
   S 4 (.mv (.v .nilp))])
 (.seq (.seq (.ops [S 5 (.ld true 3 (.t 2)),
   S 6 (.call n_table_Right [(.t 5)]),
   S 7 (.un .not (.t 6)),
   S 8 (.mv (.t 7)),
   ⟨(some 9), .mv (.t 1), (some (8, false)), []⟩,
   ⟨(some 10), .bin .lss .none (.t 9) (xI 1), (some (8, false)), []⟩,
   S 11 (.pick (.t 8) (xB true) (.t 10)),
   S 12 (.mv (.t 11)),
   ⟨(some 13), .mv (.t 1), (some (12, false)), []⟩,
   ⟨(some 14), .bin .gtr .none (.t 13) (xI 4096), (some (12, false)), []⟩,
   S 15 (.pick (.t 12) (xB true) (.t 14))])
 (.cond (.t 15)
  (.seq (.ops [S 4 (.mv (.v .nilp))])
  (.ret))
  (.skip)))
 (.seq (.ops [S 16 (.ld true 3 (.t 2)),
   S 17 (.mv (.t 1)),
   S 19 (.mkmap),
   ⟨(some 18), .call n_chain_New [], none, [(16, .ld true 3 (.t 2), none)]⟩,
   S 20 (.build [(.full []), (eI 0), (eB false), (eI 0), .nilp, .nilmap, (eB false), (eI 0)] [(0, 3, (.t 16)), (3, 1, (.t 17)), (4, 1, (.t 18)), (5, 1, (.t 19))]),
   S 21 (.box true 8 (.t 20)),
   S 4 (.mv (.t 21))])
 (.ret))),
 [.tmp 4], false, false, false⟩
/- (*sibyl/roll.Roll).Live -/
def d_roll_Roll_Live : DFn := ⟨2,
 .seq (.ops [S 2 (.box false 1 (.t 0)),
   S 3 (.box false 1 (.t 1)),
   S 4 (.mv (.v .nilf))])
 (.seq (.ops [S 5 (.mkf (.func n_roll_Roll_Live_1) [] [(.t 2), (.t 3)]),
   S 4 (.mv (.t 5))])
 (.ret)),
 [.tmp 4], false, false, false⟩
/- (*sibyl/worker.Worker).unpin -/
def d_worker_Worker_unpin : DFn := ⟨1,
 .seq (.ops [S 2 (.mv (.t 0)),
   S 3 (.nz (.t 2)),
   S 4 (.fld 0 (.t 3)),
   S 5 (.ld false 1 (.t 4)),
   S 7 (.mv (.t 0)),
   S 8 (.nz (.t 7)),
   S 9 (.fld 1 (.t 8)),
   S 10 (.ld false 1 (.t 9)),
   ⟨(some 6), .call n_log_Log_Epochs [(.t 5)], none, [(10, .ld false 1 (.t 9), none)]⟩,
   S 11 (.call n_epoch_Epochs_Unpin [(.t 6), (.t 10)])])
 (.ops [S 12 (.mv (.t 0)),
   S 13 (.mv (.t 0)),
   S 14 (.mkf (.func n_worker_Worker_post) [(.t 13)] []),
   S 15 (.nz (.t 12)),
   S 16 (.fld 3 (.t 15)),
   E (.st 1 (.t 16) (.t 14))]),
 [], false, false, false⟩
/- (*sibyl/ring.Ring[sibyl/api.Command]).Drop -/
def d_ring_Ring_Drop : DFn := ⟨1,
 .seq (.ops [S 2 (.new true [(eI 0), (eI 0), (eI 0), (eI 0), (eI 0), (eI 0), (eI 0), (eI 0), (eI 0), (eI 0), (eI 0), (.full []), (eI 0), (eB false)]),
   S 3 (.mv (xB false))])
 (.seq (.ops [S 8 (.mv (.t 0)),
   S 9 (.mv (.t 0)),
   S 10 (.call n_ring_Ring_Low [(.t 9)]),
   S 11 (.call n_ring_Ring_Get [(.t 8), (.t 10)]),
   S 7 (.mv (.t 11)),
   S 12 (.ext (.t 7) 0),
   S 13 (.ext (.t 7) 1),
   S 4 (.new true [(eI 0), (eI 0), (eI 0), (eI 0), (eI 0), (eI 0), (eI 0), (eI 0), (eI 0), (eI 0), (eI 0), (.full []), (eI 0), (eB false)]),
   E (.st 14 (.t 4) (.t 12)),
   S 5 (.mv (.t 13))])
 (.seq (.seq (.ops [S 14 (.mv (.t 5)),
   S 15 (.mv (.t 14)),
   ⟨(some 16), .mv (.t 0), (some (15, true)), []⟩,
   ⟨(some 17), .nz (.t 16), (some (15, true)), []⟩,
   ⟨(some 18), .fld 1 (.t 17), (some (15, true)), []⟩,
   ⟨(some 19), .ld false 1 (.t 18), (some (15, true)), []⟩,
   ⟨(some 20), .bin .lss .none (.t 19) (xI 4611686018427387904), (some (15, true)), []⟩,
   S 21 (.pick (.t 15) (.t 20) (xB false))])
 (.cond (.t 21)
  (.seq (.ops [S 22 (.mv (.t 0)),
    S 23 (.mv (.t 0)),
    S 24 (.nz (.t 23)),
    S 25 (.fld 1 (.t 24)),
    S 26 (.ld false 1 (.t 25)),
    S 27 (.call n_ring_Ring_at [(.t 22), (.t 26)]),
    S 28 (.build [(eI 0), (eI 0), (eI 0), (eI 0), (eI 0), (eI 0), (eI 0), (eI 0), (eI 0), (eI 0), (eI 0), (.full []), (eI 0), (eB false), (eB false)] []),
    S 29 (.nz (.t 27)),
    E (.st 15 (.t 29) (.t 28))])
  (.seq (.ops [S 30 (.mv (.t 0)),
    S 31 (.nz (.t 30)),
    S 32 (.fld 1 (.t 31)),
    S 33 (.ld false 1 (.t 32)),
    S 34 (.bin .add .none (.t 33) (xI 1)),
    S 35 (.nz (.t 30)),
    S 36 (.fld 1 (.t 35)),
    E (.st 1 (.t 36) (.t 34))])
  (.seq (.ops [S 37 (.ld true 14 (.t 4)),
    E (.st 14 (.t 2) (.t 37)),
    S 3 (.mv (xB true))])
  (.ret))))
  (.skip)))
 (.seq (.ops [S 6 (.new true [(eI 0), (eI 0), (eI 0), (eI 0), (eI 0), (eI 0), (eI 0), (eI 0), (eI 0), (eI 0), (eI 0), (.full []), (eI 0), (eB false)])])
 (.seq (.ops [S 38 (.ld true 14 (.t 6)),
   E (.st 14 (.t 2) (.t 38)),
   S 3 (.mv (xB false))])
 (.ret))))),
 [.cell 2 true 14, .tmp 3], false, false, false⟩
/- (*sibyl/ring.Ring[sibyl/api.Out]).Drop -/
def d_ring_Ring_Drop_100 : DFn := ⟨1,
 .seq (.ops [S 2 (.new true [(.full []), (.full []), (.full []), (.full [])]),
   S 3 (.mv (xB false))])
 (.seq (.ops [S 8 (.mv (.t 0)),
   S 9 (.mv (.t 0)),
   S 10 (.call n_ring_Ring_Low_135 [(.t 9)]),
   S 11 (.call n_ring_Ring_Get_54 [(.t 8), (.t 10)]),
   S 7 (.mv (.t 11)),
   S 12 (.ext (.t 7) 0),
   S 13 (.ext (.t 7) 1),
   S 4 (.new true [(.full []), (.full []), (.full []), (.full [])]),
   E (.st 4 (.t 4) (.t 12)),
   S 5 (.mv (.t 13))])
 (.seq (.seq (.ops [S 14 (.mv (.t 5)),
   S 15 (.mv (.t 14)),
   ⟨(some 16), .mv (.t 0), (some (15, true)), []⟩,
   ⟨(some 17), .nz (.t 16), (some (15, true)), []⟩,
   ⟨(some 18), .fld 1 (.t 17), (some (15, true)), []⟩,
   ⟨(some 19), .ld false 1 (.t 18), (some (15, true)), []⟩,
   ⟨(some 20), .bin .lss .none (.t 19) (xI 4611686018427387904), (some (15, true)), []⟩,
   S 21 (.pick (.t 15) (.t 20) (xB false))])
 (.cond (.t 21)
  (.seq (.ops [S 22 (.mv (.t 0)),
    S 23 (.mv (.t 0)),
    S 24 (.nz (.t 23)),
    S 25 (.fld 1 (.t 24)),
    S 26 (.ld false 1 (.t 25)),
    S 27 (.call n_ring_Ring_at_63 [(.t 22), (.t 26)]),
    S 28 (.build [(.full []), (.full []), (.full []), (.full []), (eB false)] []),
    S 29 (.nz (.t 27)),
    E (.st 5 (.t 29) (.t 28))])
  (.seq (.ops [S 30 (.mv (.t 0)),
    S 31 (.nz (.t 30)),
    S 32 (.fld 1 (.t 31)),
    S 33 (.ld false 1 (.t 32)),
    S 34 (.bin .add .none (.t 33) (xI 1)),
    S 35 (.nz (.t 30)),
    S 36 (.fld 1 (.t 35)),
    E (.st 1 (.t 36) (.t 34))])
  (.seq (.ops [S 37 (.ld true 4 (.t 4)),
    E (.st 4 (.t 2) (.t 37)),
    S 3 (.mv (xB true))])
  (.ret))))
  (.skip)))
 (.seq (.ops [S 6 (.new true [(.full []), (.full []), (.full []), (.full [])])])
 (.seq (.ops [S 38 (.ld true 4 (.t 6)),
   E (.st 4 (.t 2) (.t 38)),
   S 3 (.mv (xB false))])
 (.ret))))),
 [.cell 2 true 4, .tmp 3], false, false, false⟩
/- (*sibyl/ring.Ring[sibyl/api.Out]).Put -/
def d_ring_Ring_Put_101 : DFn := ⟨3,
 .seq (.ops [S 5 (.box true 4 (.t 2)),
   S 6 (.mv (xB false))])
 (.seq (.ops [S 8 (.mv (.t 0)),
   S 9 (.mv (.t 1)),
   S 10 (.call n_ring_Ring_at_63 [(.t 8), (.t 9)]),
   S 7 (.mv (.t 10))])
 (.seq (.seq (.ops [S 11 (.mv (.t 7)),
   S 12 (.bin .eql .ptr (.t 11) (.v .nilp)),
   S 13 (.mv (.t 12)),
   ⟨(some 14), .mv (.t 7), (some (13, false)), []⟩,
   ⟨(some 15), .nz (.t 14), (some (13, false)), []⟩,
   ⟨(some 16), .fld 4 (.t 15), (some (13, false)), []⟩,
   ⟨(some 17), .ld false 1 (.t 16), (some (13, false)), []⟩,
   S 18 (.pick (.t 13) (xB true) (.t 17))])
 (.cond (.t 18)
  (.seq (.ops [S 6 (.mv (xB false))])
  (.ret))
  (.skip)))
 (.seq (.ops [S 19 (.mv (.t 7)),
   S 20 (.ld true 4 (.t 5)),
   S 21 (.build [(.full []), (.full []), (.full []), (.full []), (eB false)] [(0, 4, (.t 20)), (4, 1, (xB true))]),
   S 22 (.nz (.t 19)),
   E (.st 5 (.t 22) (.t 21))])
 (.seq (.ops [S 6 (.mv (xB true))])
 (.ret))))),
 [.tmp 6], false, false, false⟩
/- (*sibyl/epoch.Epochs).Advance -/
def d_epoch_Epochs_Advance : DFn := ⟨1,
 .seq (.ops [S 1 (.box false 1 (.t 0)),
   S 2 (.mv (xB false))])
 (.seq (.seq (.ops [S 3 (.ld false 1 (.t 1)),
   S 4 (.bin .eql .ptr (.t 3) (.v .nilp)),
   S 5 (.mv (.t 4)),
   ⟨(some 6), .ld false 1 (.t 1), (some (5, false)), []⟩,
   ⟨(some 7), .nz (.t 6), (some (5, false)), []⟩,
   ⟨(some 8), .fld 0 (.t 7), (some (5, false)), []⟩,
   ⟨(some 9), .ld false 1 (.t 8), (some (5, false)), []⟩,
   ⟨(some 10), .bin .eql .none (.t 9) (xI 4611686018427387904), (some (5, false)), []⟩,
   S 11 (.pick (.t 5) (xB true) (.t 10)),
   S 12 (.mv (.t 11)),
   ⟨(some 13), .ld false 1 (.t 1), (some (12, false)), []⟩,
   ⟨(some 14), .nz (.t 13), (some (12, false)), []⟩,
   ⟨(some 15), .fld 2 (.t 14), (some (12, false)), []⟩,
   ⟨(some 16), .sla 16 1 (.t 15) none none, (some (12, false)), []⟩,
   ⟨(some 17), .mkf (.func n_epoch_Epochs_Advance_1) [] [(.t 1)], (some (12, false)), []⟩,
   ⟨(some 18), .call n_slices_ContainsFunc [(.t 16), (.t 17)], (some (12, false)), []⟩,
   S 19 (.pick (.t 12) (xB true) (.t 18))])
 (.cond (.t 19)
  (.seq (.ops [S 2 (.mv (xB false))])
  (.ret))
  (.skip)))
 (.seq (.ops [S 20 (.ld false 1 (.t 1)),
   S 21 (.nz (.t 20)),
   S 22 (.fld 0 (.t 21)),
   S 23 (.ld false 1 (.t 22)),
   S 24 (.bin .add .none (.t 23) (xI 1)),
   S 25 (.nz (.t 20)),
   S 26 (.fld 0 (.t 25)),
   E (.st 1 (.t 26) (.t 24))])
 (.seq (.ops [S 2 (.mv (xB true))])
 (.ret)))),
 [.tmp 2], false, false, false⟩
/- (*sibyl/merger.Merger).ripe -/
def d_merger_Merger_ripe : DFn := ⟨1,
 .seq (.ops [S 2 (.mv (.t 0)),
   S 3 (.mv (.t 0)),
   S 4 (.nz (.t 3)),
   S 5 (.fld 0 (.t 4)),
   S 6 (.ld false 1 (.t 5)),
   S 8 (.mv (.t 0)),
   S 9 (.nz (.t 8)),
   S 10 (.fld 1 (.t 9)),
   S 11 (.ld false 1 (.t 10)),
   ⟨(some 7), .call n_log_Log_Epochs [(.t 6)], none, [(11, .ld false 1 (.t 10), none)]⟩,
   S 12 (.call n_epoch_Epochs_Ripe [(.t 7), (.t 11)]),
   S 13 (.nz (.t 2)),
   S 14 (.fld 8 (.t 13)),
   E (.st 1 (.t 14) (.t 12))])
 (.ops [S 15 (.mv (.t 0)),
   S 16 (.call n_merger_Merger_free [(.t 15)])]),
 [], false, false, false⟩
/- sibyl/table.typed -/
def d_table_typed : DFn := ⟨1,
 .seq (.ops [S 2 (.mv (xB false))])
 (.seq (.ops [S 3 (.mv (.t 0)),
   S 4 (.bin .geq .none (.t 3) (xI 0)),
   S 5 (.mv (.t 4)),
   ⟨(some 6), .mv (.t 0), (some (5, true)), []⟩,
   ⟨(some 7), .bin .lss .none (.t 6) (xI 8), (some (5, true)), []⟩,
   S 8 (.pick (.t 5) (.t 7) (xB false)),
   S 2 (.mv (.t 8))])
 (.ret)),
 [.tmp 2], false, false, false⟩
/- sibyl/table.may -/
def d_table_may : DFn := ⟨3,
 .seq (.ops [S 4 (.box false 1 (.t 1)),
   S 5 (.box false 1 (.t 2)),
   S 6 (.mv (xB false))])
 (.seq (.seq (.ops [S 10 (.mv (.t 0)),
   S 11 (.len 0 (.t 10)),
   S 12 (.mv (xI 0))])
 (.block 0 (.loop [4, 5, 10, 11, 12] (.seq (.ops [S 13 (.bin .lss .none (.t 12) (.t 11))])
   (.seq (.cond (.t 13)
    (.skip)
    (.exit 0))
   (.seq (.block 1 (.seq (.ops [S 14 (.ixa 3 (.t 10) (.t 12)),
      S 15 (.ld true 3 (.t 14)),
      S 8 (.new true [(eI 0), (.full []), (.full [])]),
      E (.st 3 (.t 8) (.t 15))])
    (.seq (.ops [S 16 (.mkf (.func 139) [] [(.t 4), (.t 5)]),
      S 9 (.mv (.t 16))])
    (.seq (.ops [S 17 (.fld 0 (.t 8)),
      S 18 (.ld false 1 (.t 17)),
      S 19 (.bin .lss .none (.t 18) (xI 1)),
      S 20 (.mv (.t 19)),
      ⟨(some 21), .fld 0 (.t 8), (some (20, false)), []⟩,
      ⟨(some 22), .ld false 1 (.t 21), (some (20, false)), []⟩,
      ⟨(some 23), .bin .gtr .none (.t 22) (xI 6), (some (20, false)), []⟩,
      S 24 (.pick (.t 20) (xB true) (.t 23)),
      S 25 (.mv (.t 24)),
      ⟨(some 26), .fld 1 (.t 8), (some (25, false)), []⟩,
      ⟨(some 27), .ld false 1 (.t 26), (some (25, false)), []⟩,
      ⟨(some 28), .fld 2 (.t 8), (some (25, false)), []⟩,
      ⟨(some 29), .ld false 1 (.t 28), (some (25, false)), []⟩,
      ⟨(some 30), .lit 1 false [[(.full [])], [(.full [])]] [(0, (.t 27)), (1, (.t 29))], (some (25, false)), []⟩,
      ⟨(some 31), .call 142 [(.t 30)], (some (25, false)), []⟩,
      ⟨(some 32), .mv (.t 9), (some (25, false)), []⟩,
      ⟨(some 33), .call 141 [(.t 31), (.t 32)], (some (25, false)), []⟩,
      S 34 (.pick (.t 25) (xB true) (.t 33))])
    (.cond (.t 34)
     (.seq (.ops [S 6 (.mv (xB false))])
     (.ret))
     (.skip))))))
   (.ops [S 35 (.bin .add .none (.t 12) (xI 1)),
     S 12 (.mv (.t 35))])))))))
 (.seq (.ops [S 6 (.mv (xB true))])
 (.ret))),
 [.tmp 6], false, false, false⟩
/- slices.ContainsFunc[[]sibyl/api.Guard,sibyl/api.Guard] -/
def d_slices_ContainsFunc_108 : DFn := ⟨2,
 .seq (.ops [S 4 (.mv (xB false))])
 (.seq (.ops [S 5 (.mv (.t 0)),
   S 6 (.mv (.t 1)),
   S 7 (.call n_slices_IndexFunc_143 [(.t 5), (.t 6)]),
   S 8 (.bin .geq .none (.t 7) (xI 0)),
   S 4 (.mv (.t 8))])
 (.ret)),
 [.tmp 4], false, false, false⟩
/- (*sibyl/roll.Roll).all -/
def d_roll_Roll_all : DFn := ⟨1,
 .seq (.ops [S 2 (.nils 5 true)])
 (.seq (.seq (.ops [S 3 (.mv (.t 0)),
   S 4 (.bin .eql .ptr (.t 3) (.v .nilp))])
 (.cond (.t 4)
  (.seq (.ops [S 2 (.nils 5 true)])
  (.ret))
  (.skip)))
 (.seq (.ops [S 5 (.mv (.t 0)),
   S 6 (.nz (.t 5)),
   S 7 (.fld 0 (.t 6)),
   S 8 (.ld false 1 (.t 7)),
   S 2 (.mv (.t 8))])
 (.ret))),
 [.tmp 2], false, false, false⟩
/- sibyl/chain.New -/
def d_chain_New : DFn := ⟨0,
 .seq (.ops [S 0 (.mv (.v .nilp))])
 (.seq (.ops [S 1 (.mkmap),
   S 2 (.build [.nilmap, (eI 0)] [(0, 1, (.t 1))]),
   S 3 (.box true 2 (.t 2)),
   S 0 (.mv (.t 3))])
 (.ret)),
 [.tmp 0], false, false, false⟩
/- (*sibyl/roll.Roll).Live$1 -/
def d_roll_Roll_Live_1 : DFn := ⟨3,
 .seq (.ops [S 6 (.ld false 1 (.t 1)),
   S 7 (.call n_roll_Roll_all [(.t 6)]),
   S 8 (.len 0 (.t 7)),
   S 9 (.mv (xI 0))])
 (.block 0 (.loop [0, 2, 7, 8, 9] (.seq (.ops [S 10 (.bin .lss .none (.t 9) (.t 8))])
   (.seq (.cond (.t 10)
    (.skip)
    (.exit 0))
   (.seq (.block 1 (.seq (.ops [S 11 (.ixa 5 (.t 7) (.t 9)),
      S 12 (.ld true 5 (.t 11)),
      S 5 (.new true [(eI 0), (eI 0), (.full []), (eI 0), (eB false)]),
      E (.st 5 (.t 5) (.t 12))])
    (.seq (.ops [S 13 (.ld false 1 (.t 2)),
      S 14 (.fld 0 (.t 5)),
      S 15 (.ld false 1 (.t 14)),
      S 16 (.bin .gtr .none (.t 13) (.t 15)),
      S 17 (.mv (.t 16)),
      ⟨(some 18), .fld 1 (.t 5), (some (17, true)), []⟩,
      ⟨(some 19), .ld false 1 (.t 18), (some (17, true)), []⟩,
      ⟨(some 20), .bin .eql .none (.t 19) (xI (-1)), (some (17, true)), []⟩,
      ⟨(some 21), .mv (.t 20), (some (17, true)), []⟩,
      ⟨(some 22), .ld false 1 (.t 2), (some (21, false)), []⟩,
      ⟨(some 23), .fld 1 (.t 5), (some (21, false)), []⟩,
      ⟨(some 24), .ld false 1 (.t 23), (some (21, false)), []⟩,
      ⟨(some 25), .bin .leq .none (.t 22) (.t 24), (some (21, false)), []⟩,
      ⟨(some 26), .pick (.t 21) (xB true) (.t 25), (some (17, true)), []⟩,
      S 27 (.pick (.t 17) (.t 26) (xB false)),
      S 28 (.mv (.t 27)),
      ⟨(some 29), .mv (.t 0), (some (28, true)), []⟩,
      ⟨(some 30), .ld true 5 (.t 5), (some (28, true)), []⟩,
      ⟨(some 31), .callv (.t 29) [(.t 30)], (some (28, true)), []⟩,
      ⟨(some 32), .un .not (.t 31), (some (28, true)), []⟩,
      S 33 (.pick (.t 28) (.t 32) (xB false))])
    (.cond (.t 33)
     (.ret)
     (.skip)))))
   (.ops [S 34 (.bin .add .none (.t 9) (xI 1)),
     S 9 (.mv (.t 34))])))))),
 [], false, false, false⟩
/- (*sibyl/epoch.Epochs).Unpin -/
def d_epoch_Epochs_Unpin : DFn := ⟨2,
 .seq (.ops [S 4 (.mv (xB false))])
 (.seq (.seq (.ops [S 5 (.mv (.t 0)),
   S 6 (.mv (.t 1)),
   S 7 (.call n_epoch_Epochs_is [(.t 5), (.t 6)]),
   S 8 (.un .not (.t 7)),
   S 9 (.mv (.t 8)),
   ⟨(some 10), .mv (.t 0), (some (9, false)), []⟩,
   ⟨(some 11), .mv (.t 1), (some (9, false)), []⟩,
   ⟨(some 12), .nz (.t 10), (some (9, false)), []⟩,
   ⟨(some 13), .fld 2 (.t 12), (some (9, false)), []⟩,
   ⟨(some 14), .ixp 16 1 (.t 13) (.t 11), (some (9, false)), []⟩,
   ⟨(some 15), .ld false 1 (.t 14), (some (9, false)), []⟩,
   ⟨(some 16), .bin .eql .none (.t 15) (xI (-1)), (some (9, false)), []⟩,
   S 17 (.pick (.t 9) (xB true) (.t 16))])
 (.cond (.t 17)
  (.seq (.ops [S 4 (.mv (xB false))])
  (.ret))
  (.skip)))
 (.seq (.ops [S 18 (.mv (.t 0)),
   S 19 (.mv (.t 1)),
   S 20 (.nz (.t 18)),
   S 21 (.fld 2 (.t 20)),
   S 22 (.ixp 16 1 (.t 21) (.t 19)),
   E (.st 1 (.t 22) (xI (-1)))])
 (.seq (.ops [S 4 (.mv (xB true))])
 (.ret)))),
 [.tmp 4], false, false, false⟩
/- (*sibyl/worker.Worker).post -/
def d_worker_Worker_post : DFn := ⟨1,
 .seq (.ops [S 2 (.mv (.t 0)),
   S 3 (.nz (.t 2)),
   S 4 (.fld 0 (.t 3)),
   S 5 (.ld false 1 (.t 4)),
   S 6 (.mv (.t 0)),
   S 7 (.nz (.t 6)),
   S 8 (.fld 1 (.t 7)),
   S 9 (.ld false 1 (.t 8)),
   S 10 (.mv (.t 0)),
   S 11 (.nz (.t 10)),
   S 12 (.fld 18 (.t 11)),
   S 13 (.ld true 4 (.t 12)),
   S 14 (.call n_log_Log_Post [(.t 5), (.t 9), (.t 13)])])
 (.ops [S 15 (.mv (.t 0)),
   S 16 (.mv (.t 0)),
   S 17 (.mkf (.func n_worker_Worker_advance) [(.t 16)] []),
   S 18 (.nz (.t 15)),
   S 19 (.fld 3 (.t 18)),
   E (.st 1 (.t 19) (.t 17))]),
 [], false, false, false⟩
/- (*sibyl/ring.Ring[sibyl/api.Out]).Low -/
def d_ring_Ring_Low_135 : DFn := ⟨1,
 .seq (.ops [S 2 (.mv (xI 0))])
 (.seq (.seq (.ops [S 3 (.mv (.t 0)),
   S 4 (.bin .eql .ptr (.t 3) (.v .nilp))])
 (.cond (.t 4)
  (.seq (.ops [S 2 (.mv (xI 0))])
  (.ret))
  (.skip)))
 (.seq (.ops [S 5 (.mv (.t 0)),
   S 6 (.nz (.t 5)),
   S 7 (.fld 1 (.t 6)),
   S 8 (.ld false 1 (.t 7)),
   S 2 (.mv (.t 8))])
 (.ret))),
 [.tmp 2], false, false, false⟩
/- (*sibyl/epoch.Epochs).Advance$1 -/
def d_epoch_Epochs_Advance_1 : DFn := ⟨2,
 .seq (.ops [S 3 (.mv (xB false))])
 (.seq (.ops [S 4 (.mv (.t 0)),
   S 5 (.bin .neq .none (.t 4) (xI (-1))),
   S 6 (.mv (.t 5)),
   ⟨(some 7), .mv (.t 0), (some (6, true)), []⟩,
   ⟨(some 8), .ld false 1 (.t 1), (some (6, true)), []⟩,
   ⟨(some 9), .nz (.t 8), (some (6, true)), []⟩,
   ⟨(some 10), .fld 0 (.t 9), (some (6, true)), []⟩,
   ⟨(some 11), .ld false 1 (.t 10), (some (6, true)), []⟩,
   ⟨(some 12), .bin .neq .none (.t 7) (.t 11), (some (6, true)), []⟩,
   S 13 (.pick (.t 6) (.t 12) (xB false)),
   S 3 (.mv (.t 13))])
 (.ret)),
 [.tmp 3], false, false, false⟩
/- (*sibyl/epoch.Epochs).Ripe -/
def d_epoch_Epochs_Ripe : DFn := ⟨2,
 .seq (.ops [S 2 (.box false 1 (.t 0)),
   S 4 (.nils 2 true)])
 (.seq (.seq (.ops [S 6 (.ld false 1 (.t 2)),
   S 7 (.mv (.t 1)),
   S 8 (.call n_epoch_Epochs_is [(.t 6), (.t 7)]),
   S 9 (.un .not (.t 8))])
 (.cond (.t 9)
  (.seq (.ops [S 4 (.nils 2 true)])
  (.ret))
  (.skip)))
 (.seq (.ops [S 5 (.new false [(.full [])])])
 (.seq (.ops [S 10 (.ld false 1 (.t 2)),
   S 11 (.mv (.t 1)),
   S 12 (.ld false 1 (.t 2)),
   S 13 (.mv (.t 1)),
   S 14 (.nz (.t 12)),
   S 15 (.fld 18 (.t 14)),
   S 16 (.ixp 16 1 (.t 15) (.t 13)),
   S 17 (.ld false 1 (.t 16)),
   S 18 (.mkf (.func 170) [] [(.t 2), (.t 5)]),
   S 20 (.nz (.t 10)),
   S 21 (.fld 18 (.t 20)),
   ⟨(some 19), .call n_slices_DeleteFunc [(.t 17), (.t 18)], none, [(10, .ld false 1 (.t 2), none)]⟩,
   S 22 (.ixp 16 1 (.t 21) (.t 11)),
   E (.st 1 (.t 22) (.t 19))])
 (.seq (.ops [S 23 (.ld false 1 (.t 5)),
   S 4 (.mv (.t 23))])
 (.ret))))),
 [.tmp 4], false, false, false⟩
/- (*sibyl/merger.Merger).free -/
def d_merger_Merger_free : DFn := ⟨1,
 .seq (.ops [S 1 (.box false 1 (.t 0))])
 (.seq (.ops [S 2 (.ld false 1 (.t 1)),
   S 3 (.nz (.t 2)),
   S 4 (.fld 3 (.t 3)),
   E (.st 1 (.t 4) (.v .nilf))])
 (.seq (.seq (.ops [S 5 (.ld false 1 (.t 1)),
   S 6 (.nz (.t 5)),
   S 7 (.fld 8 (.t 6)),
   S 8 (.ld false 1 (.t 7)),
   S 9 (.len 0 (.t 8)),
   S 10 (.bin .eql .none (.t 9) (xI 0))])
 (.cond (.t 10)
  (.ret)
  (.skip)))
 (.ops [S 11 (.ld false 1 (.t 1)),
   S 12 (.mkf (.func 171) [] [(.t 1)]),
   S 13 (.nz (.t 11)),
   S 14 (.fld 3 (.t 13)),
   E (.st 1 (.t 14) (.t 12))]))),
 [], false, false, false⟩
/- slices.IndexFunc[[]sibyl/api.Guard,sibyl/api.Guard] -/
def d_slices_IndexFunc_143 : DFn := ⟨2,
 .seq (.ops [S 4 (.mv (xI 0))])
 (.seq (.seq (.ops [S 6 (.mv (.t 0)),
   S 7 (.len 0 (.t 6)),
   S 8 (.mv (xI 0))])
 (.block 0 (.loop [0, 1, 7, 8] (.seq (.ops [S 9 (.bin .lss .none (.t 8) (.t 7))])
   (.seq (.cond (.t 9)
    (.skip)
    (.exit 0))
   (.seq (.block 1 (.seq (.ops [S 10 (.mv (.t 8)),
      S 5 (.mv (.t 10))])
    (.seq (.ops [S 11 (.mv (.t 1)),
      S 12 (.mv (.t 0)),
      S 13 (.mv (.t 5)),
      S 14 (.ixa 2 (.t 12) (.t 13)),
      S 15 (.ld true 2 (.t 14)),
      S 16 (.callv (.t 11) [(.t 15)])])
    (.cond (.t 16)
     (.seq (.ops [S 17 (.mv (.t 5)),
       S 4 (.mv (.t 17))])
     (.ret))
     (.skip)))))
   (.ops [S 18 (.bin .add .none (.t 8) (xI 1)),
     S 8 (.mv (.t 18))])))))))
 (.seq (.ops [S 4 (.mv (xI (-1)))])
 (.ret))),
 [.tmp 4], false, false, false⟩
/- (*sibyl/log.Log).Post -/
def d_log_Log_Post : DFn := ⟨3,
 .seq (.ops [S 5 (.box true 4 (.t 2)),
   S 6 (.mv (xB false))])
 (.seq (.ops [S 10 (.mv (.t 0)),
   S 11 (.mv (.t 1)),
   S 12 (.call n_log_Log_Cursor [(.t 10), (.t 11)]),
   S 7 (.mv (.t 12))])
 (.seq (.ops [S 14 (.mv (.t 0)),
   S 15 (.mv (.t 7)),
   S 16 (.call n_log_Log_Look [(.t 14), (.t 15)]),
   S 13 (.mv (.t 16)),
   S 17 (.ext (.t 13) 0),
   S 18 (.ext (.t 13) 1),
   S 8 (.new true [(eI 0), (eI 0), (eI 0), (eI 0), (eI 0), (eI 0), (eI 0), (eI 0), (eI 0), (eI 0), (eI 0), (.full []), (eI 0), (eB false)]),
   E (.st 14 (.t 8) (.t 17)),
   S 9 (.mv (.t 18))])
 (.seq (.seq (.ops [S 19 (.mv (.t 7)),
   S 20 (.bin .eql .none (.t 19) (xI (-1))),
   S 21 (.mv (.t 20)),
   ⟨(some 22), .mv (.t 9), (some (21, false)), []⟩,
   ⟨(some 23), .un .not (.t 22), (some (21, false)), []⟩,
   S 24 (.pick (.t 21) (xB true) (.t 23))])
 (.cond (.t 24)
  (.seq (.ops [S 6 (.mv (xB false))])
  (.ret))
  (.skip)))
 (.seq (.ops [S 25 (.mv (.t 0)),
   S 26 (.nz (.t 25)),
   S 27 (.fld 13 (.t 26)),
   S 28 (.ld false 1 (.t 27)),
   S 29 (.mv (.t 1)),
   S 30 (.ixa 1 (.t 28) (.t 29)),
   S 31 (.ld false 1 (.t 30)),
   S 32 (.mv (.t 7)),
   S 33 (.ld true 4 (.t 5)),
   S 34 (.call n_ring_Ring_Put_101 [(.t 31), (.t 32), (.t 33)])])
 (.seq (.ops [S 35 (.mv (.t 0)),
   S 36 (.nz (.t 35)),
   S 37 (.fld 12 (.t 36)),
   S 38 (.ld false 1 (.t 37)),
   S 39 (.mv (.t 1)),
   S 40 (.ixa 1 (.t 38) (.t 39)),
   S 41 (.ld false 1 (.t 40)),
   S 42 (.bin .add .none (.t 41) (xI 1)),
   S 43 (.ixa 1 (.t 38) (.t 39)),
   E (.st 1 (.t 43) (.t 42))])
 (.seq (.ops [S 6 (.mv (xB true))])
 (.ret))))))),
 [.tmp 6], false, false, false⟩
/- (*sibyl/worker.Worker).advance -/
def d_worker_Worker_advance : DFn := ⟨1,
 .seq (.ops [S 2 (.mv (.t 0)),
   S 3 (.nz (.t 2)),
   S 4 (.fld 0 (.t 3)),
   S 5 (.ld false 1 (.t 4)),
   S 6 (.call n_log_Log_Epochs [(.t 5)]),
   S 7 (.call n_epoch_Epochs_Advance [(.t 6)])])
 (.ops [S 8 (.mv (.t 0)),
   S 9 (.mv (.t 0)),
   S 10 (.mkf (.func n_worker_Worker_ripe) [(.t 9)] []),
   S 11 (.nz (.t 8)),
   S 12 (.fld 3 (.t 11)),
   E (.st 1 (.t 12) (.t 10))]),
 [], false, false, false⟩
/- slices.DeleteFunc[[]sibyl/epoch.old,sibyl/epoch.old] -/
def d_slices_DeleteFunc : DFn := ⟨2,
 .seq (.ops [S 4 (.nils 3 true)])
 (.seq (.ops [S 8 (.mv (.t 0)),
   S 9 (.mv (.t 1)),
   S 10 (.call n_slices_IndexFunc_198 [(.t 8), (.t 9)]),
   S 5 (.mv (.t 10))])
 (.seq (.seq (.ops [S 11 (.mv (.t 5)),
   S 12 (.bin .eql .none (.t 11) (xI (-1)))])
 (.cond (.t 12)
  (.seq (.ops [S 13 (.mv (.t 0)),
    S 4 (.mv (.t 13))])
  (.ret))
  (.skip)))
 (.seq (.seq (.ops [S 14 (.mv (.t 5)),
   S 15 (.bin .add .none (.t 14) (xI 1)),
   S 6 (.mv (.t 15))])
 (.block 0 (.loop [0, 1, 5, 6] (.seq (.seq (.ops [S 16 (.mv (.t 6)),
     S 17 (.mv (.t 0)),
     S 18 (.len 0 (.t 17)),
     S 19 (.bin .lss .none (.t 16) (.t 18))])
   (.cond (.t 19)
    (.skip)
    (.exit 0)))
   (.seq (.block 1 (.seq (.ops [S 22 (.mv (.t 0)),
      S 23 (.mv (.t 6)),
      S 24 (.ixa 3 (.t 22) (.t 23)),
      S 25 (.ld true 3 (.t 24)),
      S 7 (.new true [(eI 0), (eI 0), (eI 0)]),
      E (.st 3 (.t 7) (.t 25))])
    (.seq (.ops [S 26 (.mv (.t 1)),
      S 27 (.ld true 3 (.t 7)),
      S 28 (.callv (.t 26) [(.t 27)]),
      S 29 (.un .not (.t 28))])
    (.cond (.t 29)
     (.seq (.ops [S 30 (.mv (.t 0)),
       S 31 (.mv (.t 5)),
       S 32 (.ld true 3 (.t 7)),
       S 33 (.ixa 3 (.t 30) (.t 31)),
       E (.st 3 (.t 33) (.t 32))])
     (.ops [S 34 (.mv (.t 5)),
       S 35 (.bin .add .none (.t 34) (xI 1)),
       S 5 (.mv (.t 35))]))
     (.skip)))))
   (.ops [S 20 (.mv (.t 6)),
     S 21 (.bin .add .none (.t 20) (xI 1)),
     S 6 (.mv (.t 21))]))))))
 (.seq (.ops [E (.nz (.v .junk))])
 (.seq (.ops [S 39 (.mv (.t 0)),
   S 40 (.mv (.t 5)),
   S 41 (.slc 3 (.t 39) none (some (.t 40)) none),
   S 4 (.mv (.t 41))])
 (.ret)))))),
 [.tmp 4], false, false, false⟩
/- (*sibyl/worker.Worker).ripe -/
def d_worker_Worker_ripe : DFn := ⟨1,
 .seq (.ops [S 2 (.mv (.t 0)),
   S 3 (.mv (.t 0)),
   S 4 (.nz (.t 3)),
   S 5 (.fld 0 (.t 4)),
   S 6 (.ld false 1 (.t 5)),
   S 8 (.mv (.t 0)),
   S 9 (.nz (.t 8)),
   S 10 (.fld 1 (.t 9)),
   S 11 (.ld false 1 (.t 10)),
   ⟨(some 7), .call n_log_Log_Epochs [(.t 6)], none, [(11, .ld false 1 (.t 10), none)]⟩,
   S 12 (.call n_epoch_Epochs_Ripe [(.t 7), (.t 11)]),
   S 13 (.nz (.t 2)),
   S 14 (.fld 22 (.t 13)),
   E (.st 1 (.t 14) (.t 12))])
 (.ops [S 15 (.mv (.t 0)),
   S 16 (.call n_worker_Worker_free [(.t 15)])]),
 [], false, false, false⟩
/- slices.IndexFunc[[]sibyl/epoch.old,sibyl/epoch.old] -/
def d_slices_IndexFunc_198 : DFn := ⟨2,
 .seq (.ops [S 4 (.mv (xI 0))])
 (.seq (.seq (.ops [S 6 (.mv (.t 0)),
   S 7 (.len 0 (.t 6)),
   S 8 (.mv (xI 0))])
 (.block 0 (.loop [0, 1, 7, 8] (.seq (.ops [S 9 (.bin .lss .none (.t 8) (.t 7))])
   (.seq (.cond (.t 9)
    (.skip)
    (.exit 0))
   (.seq (.block 1 (.seq (.ops [S 10 (.mv (.t 8)),
      S 5 (.mv (.t 10))])
    (.seq (.ops [S 11 (.mv (.t 1)),
      S 12 (.mv (.t 0)),
      S 13 (.mv (.t 5)),
      S 14 (.ixa 3 (.t 12) (.t 13)),
      S 15 (.ld true 3 (.t 14)),
      S 16 (.callv (.t 11) [(.t 15)])])
    (.cond (.t 16)
     (.seq (.ops [S 17 (.mv (.t 5)),
       S 4 (.mv (.t 17))])
     (.ret))
     (.skip)))))
   (.ops [S 18 (.bin .add .none (.t 8) (xI 1)),
     S 8 (.mv (.t 18))])))))))
 (.seq (.ops [S 4 (.mv (xI (-1)))])
 (.ret))),
 [.tmp 4], false, false, false⟩
/- (*sibyl/worker.Worker).free -/
def d_worker_Worker_free : DFn := ⟨1,
 .seq (.ops [S 1 (.box false 1 (.t 0))])
 (.block 0 (.seq (.ops [S 6 (.ld false 1 (.t 1)),
    S 7 (.nz (.t 6)),
    S 8 (.fld 22 (.t 7)),
    S 9 (.ld false 1 (.t 8)),
    S 10 (.len 0 (.t 9)),
    S 11 (.bin .gtr .none (.t 10) (xI 0)),
    S 5 (.mv (.t 11))])
  (.cond (.t 5)
   (.ops [S 12 (.ld false 1 (.t 1)),
     S 13 (.mkf (.func 215) [] [(.t 1)]),
     S 14 (.nz (.t 12)),
     S 15 (.fld 3 (.t 14)),
     E (.st 1 (.t 15) (.t 13))])
   (.seq (.ops [S 17 (.ld false 1 (.t 1)),
     S 18 (.nz (.t 17)),
     S 19 (.fld 4 (.t 18)),
     S 20 (.fld 0 (.t 19)),
     S 21 (.ld false 1 (.t 20)),
     S 22 (.bin .eql .none (.t 21) (xI 5)),
     S 16 (.mv (.t 22))])
   (.cond (.t 16)
    (.ops [S 23 (.ld false 1 (.t 1)),
      S 24 (.ld false 1 (.t 1)),
      S 25 (.mkf (.func 216) [(.t 24)] []),
      S 26 (.nz (.t 23)),
      S 27 (.fld 3 (.t 26)),
      E (.st 1 (.t 27) (.t 25))])
    (.ops [S 2 (.ld false 1 (.t 1)),
      S 3 (.nz (.t 2)),
      S 4 (.fld 3 (.t 3)),
      E (.st 1 (.t 4) (.v .nilf))])))))),
 [], false, false, false⟩

def progList : List (Nat × DFn) := [(n_sibyllaw22_MergerNil, d_sibyllaw22_MergerNil), (n_log_New, d_log_New), (n_worker_New, d_worker_New), (n_log_Log_Take, d_log_Log_Take), (n_log_Log_Fill, d_log_Log_Fill), (n_worker_Worker_Step, d_worker_Worker_Step), (n_worker_Worker_Left, d_worker_Worker_Left), (n_log_Log_Cursor, d_log_Log_Cursor), (n_merger_New, d_merger_New), (n_sibyllaw22_Spec_config, d_sibyllaw22_Spec_config), (n_sibyllaw22_rest, d_sibyllaw22_rest), (n_merger_Merger_Step, d_merger_Merger_Step), (n_sibyllaw22_awake, d_sibyllaw22_awake), (n_merger_Merger_Calm, d_merger_Merger_Calm), (n_merger_Merger_Desk, d_merger_Merger_Desk), (n_queue_Desk_Live, d_queue_Desk_Live), (n_log_Right, d_log_Right), (n_store_New, d_store_New), (n_epoch_New, d_epoch_New), (n_ring_New, d_ring_New), (n_ring_New_30, d_ring_New_30), (n_shard_New, d_shard_New), (n_log_Log_Config, d_log_Log_Config), (n_log_Log_Low, d_log_Log_Low), (n_ring_Ring_Put, d_ring_Ring_Put), (n_worker_Worker_look, d_worker_Worker_look), (n_queue_New, d_queue_New), (n_merger_Merger_collect, d_merger_Merger_collect), (n_sibyllaw22_side, d_sibyllaw22_side), (n_sibyllaw22_Side_work, d_sibyllaw22_Side_work), (n_log_Log_Answer, d_log_Log_Answer), (n_shard_within, d_shard_within), (n_ring_Ring_Low, d_ring_Ring_Low), (n_ring_Ring_at, d_ring_Ring_at), (n_log_Log_Look, d_log_Log_Look), (n_worker_Worker_pin, d_worker_Worker_pin), (n_log_Log_Collect, d_log_Log_Collect), (n_merger_Merger_do, d_merger_Merger_do), (n_ring_Ring_Get, d_ring_Ring_Get), (n_log_Log_Epochs, d_log_Log_Epochs), (n_epoch_Epochs_Pin, d_epoch_Epochs_Pin), (n_worker_Worker_apply, d_worker_Worker_apply), (n_log_Log_Collect_1, d_log_Log_Collect_1), (n_slices_ContainsFunc, d_slices_ContainsFunc), (n_ring_Ring_Get_54, d_ring_Ring_Get_54), (n_queue_Desk_Do, d_queue_Desk_Do), (n_merger_Merger_goOn, d_merger_Merger_goOn), (n_epoch_Epochs_is, d_epoch_Epochs_is), (n_shard_Shard_Apply, d_shard_Shard_Apply), (n_log_Log_Store, d_log_Log_Store), (n_worker_Worker_ups, d_worker_Worker_ups), (n_slices_IndexFunc, d_slices_IndexFunc), (n_ring_Ring_at_63, d_ring_Ring_at_63), (n_merger_Merger_reply, d_merger_Merger_reply), (n_shard_Shard_register, d_shard_Shard_register), (n_worker_Worker_downs, d_worker_Worker_downs), (n_log_Log_Reply, d_log_Log_Reply), (n_merger_Merger_advance, d_merger_Merger_advance), (n_table_Right, d_table_Right), (n_roll_Roll_Len, d_roll_Roll_Len), (n_roll_Roll_Add, d_roll_Roll_Add), (n_runs_New, d_runs_New), (n_roll_Roll_Live, d_roll_Roll_Live), (n_worker_Worker_unpin, d_worker_Worker_unpin), (n_ring_Ring_Drop, d_ring_Ring_Drop), (n_ring_Ring_Drop_100, d_ring_Ring_Drop_100), (n_ring_Ring_Put_101, d_ring_Ring_Put_101), (n_epoch_Epochs_Advance, d_epoch_Epochs_Advance), (n_merger_Merger_ripe, d_merger_Merger_ripe), (n_table_typed, d_table_typed), (n_table_may, d_table_may), (n_slices_ContainsFunc_108, d_slices_ContainsFunc_108), (n_roll_Roll_all, d_roll_Roll_all), (n_chain_New, d_chain_New), (n_roll_Roll_Live_1, d_roll_Roll_Live_1), (n_epoch_Epochs_Unpin, d_epoch_Epochs_Unpin), (n_worker_Worker_post, d_worker_Worker_post), (n_ring_Ring_Low_135, d_ring_Ring_Low_135), (n_epoch_Epochs_Advance_1, d_epoch_Epochs_Advance_1), (n_epoch_Epochs_Ripe, d_epoch_Epochs_Ripe), (n_merger_Merger_free, d_merger_Merger_free), (n_slices_IndexFunc_143, d_slices_IndexFunc_143), (n_log_Log_Post, d_log_Log_Post), (n_worker_Worker_advance, d_worker_Worker_advance), (n_slices_DeleteFunc, d_slices_DeleteFunc), (n_worker_Worker_ripe, d_worker_Worker_ripe), (n_slices_IndexFunc_198, d_slices_IndexFunc_198), (n_worker_Worker_free, d_worker_Worker_free)]
end Dk.M
