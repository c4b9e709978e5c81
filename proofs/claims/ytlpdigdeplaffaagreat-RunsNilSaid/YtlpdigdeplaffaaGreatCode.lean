/- D's code of the functions, printed by a program of mine (DPrint). -/
import Derived.Test.YtlpdigdeplaffaaGreatGk5
set_option linter.unusedVariables false
set_option linter.unusedSimpArgs false
set_option linter.unusedSectionVars false
namespace Dk.U
open Go Dk
abbrev n_sibyllaw14_RunsNil : Nat := 3
abbrev n_runs_Runs_Feed : Nat := 4
abbrev n_sibyllaw14_RunsNil_1 : Nat := 5
abbrev n_sibyllaw14_awake : Nat := 6
abbrev n_runs_Runs_End : Nat := 7
abbrev n_runs_Runs_Count : Nat := 8
abbrev n_runs_Runs_Misses : Nat := 9
abbrev n_runs_Runs_Lost : Nat := 10
abbrev n_runs_New : Nat := 11
abbrev n_slices_Clone : Nat := 12
abbrev n_runs_Runs_grow : Nat := 13
abbrev n_runs_Runs_Feed_1 : Nat := 14
abbrev n_step_Done : Nat := 15
abbrev n_runs_mapped : Nat := 16
abbrev n_runs_Runs_Feed_2 : Nat := 17
abbrev n_runs_Runs_found : Nat := 18
abbrev n_chain_Chain_Push : Nat := 19
abbrev n_chain_Chain_Keep : Nat := 20
abbrev n_chain_Chain_Drop : Nat := 21
abbrev n_slices_SortStableFunc : Nat := 22
abbrev n_runs_Runs_Feed_3 : Nat := 23
abbrev n_tuple_Compare : Nat := 24
abbrev n_sibyllaw14_feed : Nat := 25
abbrev n_slices_SortFunc : Nat := 26
abbrev n_runs_Runs_End_1 : Nat := 27
abbrev n_cmp_Or : Nat := 28
abbrev n_cmp_Compare : Nat := 29
abbrev n_table_Right : Nat := 30
abbrev n_chain_New : Nat := 31
abbrev n_runs_Runs_grow_1 : Nat := 32
abbrev n_tuple_Flat : Nat := 33
abbrev n_runs_shifted : Nat := 34
abbrev n_step_Step : Nat := 35
abbrev n_step_Start : Nat := 36
abbrev n_runs_Runs_found_1 : Nat := 37
abbrev n_runs_mapped_38 : Nat := 38
abbrev n_runs_Runs_found_2 : Nat := 39
abbrev n_runs_mapped_40 : Nat := 40
abbrev n_runs_Runs_found_2_1 : Nat := 41
abbrev n_runs_mapped_42 : Nat := 42
abbrev n_runs_Runs_found_3 : Nat := 43
abbrev n_chain_Chain_at : Nat := 44
abbrev n_slices_stableCmpFunc : Nat := 45
abbrev n_slices_CompareFunc : Nat := 46
abbrev n_tuple_Compare_1 : Nat := 47
abbrev n_slices_Compare : Nat := 48
abbrev n_sibyllaw14_feed_1 : Nat := 49
abbrev n_sibyllaw14_stamp : Nat := 50
abbrev n_slices_pdqsortCmpFunc : Nat := 51
abbrev n_math_bits_Len : Nat := 52
abbrev n_cmp_isNaN : Nat := 53
abbrev n_table_Right_1 : Nat := 54
abbrev n_table_typed : Nat := 55
abbrev n_table_may : Nat := 56
abbrev n_slices_ContainsFunc : Nat := 57
abbrev n_slices_Concat : Nat := 58
abbrev n_runs_shifted_1 : Nat := 59
abbrev n_runs_shifted_1_1 : Nat := 60
abbrev n_step_Fits : Nat := 61
abbrev n_step_Step_1 : Nat := 62
abbrev n_step_copied : Nat := 63
abbrev n_step_barred : Nat := 64
abbrev n_step_takes : Nat := 65
abbrev n_step_with : Nat := 66
abbrev n_slices_insertionSortCmpFunc : Nat := 67
abbrev n_slices_symMergeCmpFunc : Nat := 68
abbrev n_slices_insertionSortCmpFunc_69 : Nat := 69
abbrev n_slices_heapSortCmpFunc : Nat := 70
abbrev n_slices_breakPatternsCmpFunc : Nat := 71
abbrev n_slices_choosePivotCmpFunc : Nat := 72
abbrev n_slices_reverseRangeCmpFunc : Nat := 73
abbrev n_slices_partialInsertionSortCmpFunc : Nat := 74
abbrev n_slices_partitionEqualCmpFunc : Nat := 75
abbrev n_slices_partitionCmpFunc : Nat := 76
abbrev n_math_bits_Len32 : Nat := 77
abbrev n_math_bits_Len64 : Nat := 78
abbrev n_table_may_1 : Nat := 79
abbrev n_table_named : Nat := 80
abbrev n_slices_ContainsFunc_81 : Nat := 81
abbrev n_slices_Concat_82 : Nat := 82
abbrev n_slices_IndexFunc : Nat := 83
abbrev n_slices_Grow : Nat := 84
abbrev n_slices_Clone_85 : Nat := 85
abbrev n_step_barred_1 : Nat := 86
abbrev n_pred_All : Nat := 87
abbrev n_step_sets : Nat := 88
abbrev n_slices_rotateCmpFunc : Nat := 89
abbrev n_slices_siftDownCmpFunc : Nat := 90
abbrev n_slices_nextPowerOfTwo : Nat := 91
abbrev n_slices_xorshift_Next : Nat := 92
abbrev n_slices_medianAdjacentCmpFunc : Nat := 93
abbrev n_slices_medianCmpFunc : Nat := 94
abbrev n_slices_IndexFunc_95 : Nat := 95
abbrev n_slices_Grow_96 : Nat := 96
abbrev n_pred_Holds : Nat := 97
abbrev n_slices_swapRangeCmpFunc : Nat := 98
abbrev n_slices_order2CmpFunc : Nat := 99
abbrev n_pred_Eval : Nat := 100
abbrev n_num_Test : Nat := 101
abbrev n_pred_Eval_1 : Nat := 102
abbrev n_pred_Eval_2 : Nat := 103
abbrev n_pred_last : Nat := 104
abbrev n_num_Do : Nat := 105
@[reducible] instance globs : Globs := ⟨fun _ => none⟩
/- sibyl/sibyllaw14.RunsNil -/
def d_sibyllaw14_RunsNil : DFn := ⟨2,
 .seq (.ops [S 3 (.box true 6 (.t 1)),
   S 4 (.mv (xB false))])
 (.seq (.ops [S 5 (.mv (.v .nilp))])
 (.seq (.ops [S 8 (.build [(eI 0), (eB false), (.full []), (.full [])] []),
   S 9 (.lit 4 true [[(eI 0), (eB false), (.full []), (.full [])]] [(0, (.t 8))]),
   S 10 (.build [(.full []), (eI 0), (eB false)] [(0, 1, (.t 9)), (1, 1, (xI 3))]),
   S 6 (.new true [(.full []), (eI 0), (eB false)]),
   E (.st 3 (.t 6) (.t 10))])
 (.seq (.ops [S 11 (.mv (.t 5)),
   S 12 (.build [(eI 0), (eI 0)] []),
   S 13 (.ld true 6 (.t 3)),
   S 14 (.call n_runs_Runs_Feed [(.t 11), (xI 1), (.t 12), (.t 13), (.v (.fn (.func 5) [] []))]),
   S 7 (.new true [(.full []), (.full []), (.full []), (eB false)]),
   E (.st 4 (.t 7) (.t 14))])
 (.seq (.ops [S 15 (.call n_sibyllaw14_awake []),
   S 16 (.mv (.t 15)),
   ⟨(some 17), .fld 0 (.t 7), (some (16, true)), []⟩,
   ⟨(some 18), .ld false 1 (.t 17), (some (16, true)), []⟩,
   ⟨(some 19), .len 0 (.t 18), (some (16, true)), []⟩,
   ⟨(some 20), .fld 1 (.t 7), (some (16, true)), []⟩,
   ⟨(some 21), .ld false 1 (.t 20), (some (16, true)), []⟩,
   ⟨(some 22), .len 0 (.t 21), (some (16, true)), []⟩,
   ⟨(some 23), .bin .add .none (.t 19) (.t 22), (some (16, true)), []⟩,
   ⟨(some 24), .fld 2 (.t 7), (some (16, true)), []⟩,
   ⟨(some 25), .ld false 1 (.t 24), (some (16, true)), []⟩,
   ⟨(some 26), .len 0 (.t 25), (some (16, true)), []⟩,
   ⟨(some 27), .bin .add .none (.t 23) (.t 26), (some (16, true)), []⟩,
   ⟨(some 28), .bin .eql .none (.t 27) (xI 0), (some (16, true)), []⟩,
   S 29 (.pick (.t 16) (.t 28) (xB false)),
   S 30 (.mv (.t 29)),
   ⟨(some 31), .fld 3 (.t 7), (some (30, true)), []⟩,
   ⟨(some 32), .ld false 1 (.t 31), (some (30, true)), []⟩,
   ⟨(some 33), .un .not (.t 32), (some (30, true)), []⟩,
   S 34 (.pick (.t 30) (.t 33) (xB false)),
   S 35 (.mv (.t 34)),
   ⟨(some 36), .mv (.t 5), (some (35, true)), []⟩,
   ⟨(some 37), .call n_runs_Runs_End [(.t 36)], (some (35, true)), []⟩,
   ⟨(some 38), .len 0 (.t 37), (some (35, true)), []⟩,
   ⟨(some 39), .bin .eql .none (.t 38) (xI 0), (some (35, true)), []⟩,
   S 40 (.pick (.t 35) (.t 39) (xB false)),
   S 41 (.mv (.t 40)),
   ⟨(some 42), .mv (.t 5), (some (41, true)), []⟩,
   ⟨(some 43), .call n_runs_Runs_Count [(.t 42)], (some (41, true)), []⟩,
   ⟨(some 44), .mv (.t 5), (some (41, true)), []⟩,
   ⟨(some 45), .call n_runs_Runs_Misses [(.t 44)], (some (41, true)), []⟩,
   ⟨(some 46), .bin .add .none (.t 43) (.t 45), (some (41, true)), []⟩,
   ⟨(some 47), .bin .eql .none (.t 46) (xI 0), (some (41, true)), []⟩,
   S 48 (.pick (.t 41) (.t 47) (xB false)),
   S 49 (.mv (.t 48)),
   ⟨(some 50), .mv (.t 5), (some (49, true)), []⟩,
   ⟨(some 51), .call n_runs_Runs_Lost [(.t 50)], (some (49, true)), []⟩,
   ⟨(some 52), .un .not (.t 51), (some (49, true)), []⟩,
   S 53 (.pick (.t 49) (.t 52) (xB false)),
   S 54 (.mv (.t 53)),
   ⟨(some 55), .build [(.full []), (eI 0), (eB false)] [], (some (54, true)), []⟩,
   ⟨(some 56), .call n_runs_New [(.t 55), (xI 5)], (some (54, true)), []⟩,
   ⟨(some 57), .bin .eql .ptr (.t 56) (.v .nilp), (some (54, true)), []⟩,
   S 58 (.pick (.t 54) (.t 57) (xB false)),
   S 59 (.mv (.t 58)),
   ⟨(some 60), .ld true 3 (.t 6), (some (59, true)), []⟩,
   ⟨(some 61), .mv (.t 0), (some (59, true)), []⟩,
   ⟨(some 62), .call n_runs_New [(.t 60), (.t 61)], (some (59, true)), []⟩,
   ⟨(some 63), .bin .neq .ptr (.t 62) (.v .nilp), (some (59, true)), []⟩,
   ⟨(some 64), .mv (.t 0), (some (59, true)), []⟩,
   ⟨(some 65), .bin .geq .none (.t 64) (xI 1), (some (59, true)), []⟩,
   ⟨(some 66), .mv (.t 65), (some (59, true)), []⟩,
   ⟨(some 67), .mv (.t 0), (some (66, true)), []⟩,
   ⟨(some 68), .bin .leq .none (.t 67) (xI 4096), (some (66, true)), []⟩,
   ⟨(some 69), .pick (.t 66) (.t 68) (xB false), (some (59, true)), []⟩,
   ⟨(some 70), .bin .eql .bool (.t 63) (.t 69), (some (59, true)), []⟩,
   S 71 (.pick (.t 59) (.t 70) (xB false)),
   S 4 (.mv (.t 71))])
 (.ret))))),
 [.tmp 4], false, true, false⟩
/- (*sibyl/runs.Runs).Feed -/
def d_runs_Runs_Feed : DFn := ⟨5,
 .seq (.ops [S 5 (.box false 1 (.t 0)),
   S 7 (.box true 2 (.t 2)),
   S 8 (.box true 6 (.t 3)),
   S 10 (.new true [(.full []), (.full []), (.full []), (eB false)])])
 (.seq (.seq (.ops [S 28 (.ld false 1 (.t 5)),
   S 29 (.bin .eql .ptr (.t 28) (.v .nilp)),
   S 30 (.mv (.t 29)),
   ⟨(some 31), .ld false 1 (.t 5), (some (30, false)), []⟩,
   ⟨(some 32), .nz (.t 31), (some (30, false)), []⟩,
   ⟨(some 33), .fld 6 (.t 32), (some (30, false)), []⟩,
   ⟨(some 34), .ld false 1 (.t 33), (some (30, false)), []⟩,
   S 35 (.pick (.t 30) (xB true) (.t 34))])
 (.cond (.t 35)
  (.seq (.ops [S 36 (.build [(.full []), (.full []), (.full []), (eB false)] []),
    E (.st 4 (.t 10) (.t 36))])
  (.ret))
  (.skip)))
 (.seq (.ops [S 11 (.mv (xI 0))])
 (.seq (.seq (.ops [S 37 (.ld false 1 (.t 5)),
   S 38 (.nz (.t 37)),
   S 39 (.fld 0 (.t 38)),
   S 40 (.fld 2 (.t 39)),
   S 41 (.ld false 1 (.t 40))])
 (.cond (.t 41)
  (.ops [S 42 (.fld 1 (.t 8)),
    S 43 (.ld false 1 (.t 42)),
    S 11 (.mv (.t 43))])
  (.skip)))
 (.seq (.ops [S 44 (.ld false 1 (.t 5)),
   S 45 (.nz (.t 44)),
   S 46 (.fld 5 (.t 45)),
   S 47 (.ld false 1 (.t 46)),
   S 48 (.mv (.t 11)),
   S 49 (.look .int .nilp false (.t 47) (.t 48)),
   S 12 (.mv (.t 49))])
 (.seq (.seq (.ops [S 50 (.mv (.t 12)),
   S 51 (.bin .eql .ptr (.t 50) (.v .nilp))])
 (.cond (.t 51)
  (.seq (.ops [S 52 (.build [(eI 0), (.full []), (.full [])] []),
    S 53 (.box true 3 (.t 52)),
    S 12 (.mv (.t 53))])
  (.ops [S 54 (.ld false 1 (.t 5)),
    S 55 (.nz (.t 54)),
    S 56 (.fld 5 (.t 55)),
    S 57 (.ld false 1 (.t 56)),
    S 58 (.mv (.t 11)),
    S 59 (.mv (.t 12)),
    E (.upd .int (.t 57) (.t 58) (.t 59))]))
  (.skip)))
 (.seq (.ops [S 60 (.mv (.t 12)),
   S 61 (.nz (.t 60)),
   S 62 (.fld 0 (.t 61)),
   S 63 (.ld false 1 (.t 62)),
   S 64 (.bin .add .none (.t 63) (xI 1)),
   S 65 (.nz (.t 60)),
   S 66 (.fld 0 (.t 65)),
   E (.st 1 (.t 66) (.t 64))])
 (.seq (.ops [S 67 (.mv (.t 12)),
   S 68 (.mv (.t 12)),
   S 69 (.nz (.t 68)),
   S 70 (.fld 1 (.t 69)),
   S 71 (.ld false 1 (.t 70)),
   S 72 (.mv (.t 1)),
   S 73 (.ld true 2 (.t 7)),
   S 74 (.build [(eI 0), (eI 0), (eI 0)] [(0, 1, (.t 72)), (1, 2, (.t 73))]),
   S 75 (.lit 3 true [[(eI 0), (eI 0), (eI 0)]] [(0, (.t 74))]),
   S 76 (.app 3 true 24 (.t 71) (.t 75)),
   S 77 (.nz (.t 67)),
   S 78 (.fld 1 (.t 77)),
   E (.st 1 (.t 78) (.t 76))])
 (.seq (.seq (.ops [S 79 (.mv (.t 12)),
   S 80 (.nz (.t 79)),
   S 81 (.fld 1 (.t 80)),
   S 82 (.ld false 1 (.t 81)),
   S 83 (.len 0 (.t 82)),
   S 84 (.bin .gtr .none (.t 83) (xI 8))])
 (.cond (.t 84)
  (.ops [S 85 (.mv (.t 12)),
    S 86 (.mv (.t 12)),
    S 87 (.nz (.t 86)),
    S 88 (.fld 1 (.t 87)),
    S 89 (.ld false 1 (.t 88)),
    S 90 (.slc 3 (.t 89) (some (xI 1)) none none),
    S 91 (.call n_slices_Clone [(.t 90)]),
    S 92 (.nz (.t 85)),
    S 93 (.fld 1 (.t 92)),
    E (.st 1 (.t 93) (.t 91))])
  (.skip)))
 (.seq (.ops [S 94 (.ld false 1 (.t 5)),
   S 95 (.mv (.t 12)),
   S 96 (.ld true 6 (.t 8)),
   S 97 (.mv (.t 4)),
   S 98 (.call n_runs_Runs_grow [(.t 94), (.t 95), (.t 96), (.t 97)]),
   S 13 (.mv (.t 98))])
 (.seq (.ops [S 99 (.mkf (.func n_runs_Runs_Feed_1) [] [(.t 5)]),
   S 14 (.mv (.t 99))])
 (.seq (.ops [S 15 (.mv (xI 0))])
 (.seq (.seq (.ops [S 100 (.mv (.t 13)),
   S 101 (.len 0 (.t 100)),
   S 102 (.mv (xI 0))])
 (.block 0 (.loop [1, 5, 7, 10, 12, 13, 14, 15, 100, 101, 102] (.seq (.ops [S 103 (.bin .lss .none (.t 102) (.t 101))])
   (.seq (.cond (.t 103)
    (.skip)
    (.exit 0))
   (.seq (.block 1 (.seq (.ops [S 104 (.ixa 6 (.t 100) (.t 102)),
      S 105 (.ld true 6 (.t 104)),
      S 17 (.new true [(eI 0), (.full []), (eB false), (eI 0), (eI 0), (eB false)]),
      E (.st 6 (.t 17) (.t 105))])
    (.seq (.ops [S 106 (.mv (.t 14)),
      S 107 (.ld true 6 (.t 17)),
      S 108 (.callv (.t 106) [(.t 107)])])
    (.cond (.t 108)
     (.ops [S 109 (.mv (.t 15)),
       S 110 (.bin .add .none (.t 109) (xI 1)),
       S 15 (.mv (.t 110))])
     (.skip)))))
   (.ops [S 111 (.bin .add .none (.t 102) (xI 1)),
     S 102 (.mv (.t 111))])))))))
 (.seq (.seq (.ops [S 112 (.mv (.t 15)),
   S 113 (.ld false 1 (.t 5)),
   S 114 (.nz (.t 113)),
   S 115 (.fld 3 (.t 114)),
   S 116 (.ld false 1 (.t 115)),
   S 117 (.bin .gtr .none (.t 112) (.t 116))])
 (.cond (.t 117)
  (.seq (.ops [S 118 (.ld false 1 (.t 5)),
    S 119 (.nz (.t 118)),
    S 120 (.fld 6 (.t 119)),
    E (.st 1 (.t 120) (xB true))])
  (.seq (.ops [S 121 (.ld false 1 (.t 5)),
    S 122 (.call n_runs_Runs_End [(.t 121)]),
    S 123 (.build [(.full []), (.full []), (.full []), (eB false)] [(2, 1, (.t 122)), (3, 1, (xB true))]),
    E (.st 4 (.t 10) (.t 123))])
  (.ret)))
  (.skip)))
 (.seq (.ops [S 18 (.new true [(.full []), (.full []), (.full []), (eB false)])])
 (.seq (.ops [S 124 (.mv (.t 12)),
   S 125 (.nz (.t 124)),
   S 126 (.fld 2 (.t 125)),
   S 127 (.ld false 1 (.t 126)),
   S 128 (.call n_runs_mapped [(.t 127), (.v (.fn (.func 17) [] []))]),
   S 19 (.mv (.t 128))])
 (.seq (.ops [S 129 (.mv (.t 12)),
   S 130 (.nz (.t 129)),
   S 131 (.fld 2 (.t 130)),
   E (.st 1 (.t 131) (.v (.full [])))])
 (.seq (.seq (.ops [S 132 (.mv (.t 13)),
   S 133 (.len 0 (.t 132)),
   S 134 (.mv (xI 0))])
 (.block 2 (.loop [1, 5, 7, 10, 12, 14, 18, 19, 132, 133, 134] (.seq (.ops [S 135 (.bin .lss .none (.t 134) (.t 133))])
   (.seq (.cond (.t 135)
    (.skip)
    (.exit 2))
   (.seq (.block 3 (.seq (.ops [S 136 (.ixa 6 (.t 132) (.t 134)),
      S 137 (.ld true 6 (.t 136)),
      S 21 (.new true [(eI 0), (.full []), (eB false), (eI 0), (eI 0), (eB false)]),
      E (.st 6 (.t 21) (.t 137))])
    (.seq (.seq (.ops [S 138 (.fld 5 (.t 21)),
      S 139 (.ld false 1 (.t 138)),
      S 140 (.mv (.t 139)),
      ⟨(some 141), .ld false 1 (.t 5), (some (140, true)), []⟩,
      ⟨(some 142), .nz (.t 141), (some (140, true)), []⟩,
      ⟨(some 143), .fld 0 (.t 142), (some (140, true)), []⟩,
      ⟨(some 144), .ld true 3 (.t 143), (some (140, true)), []⟩,
      ⟨(some 145), .fld 0 (.t 21), (some (140, true)), []⟩,
      ⟨(some 146), .fld 0 (.t 145), (some (140, true)), []⟩,
      ⟨(some 147), .ld true 3 (.t 146), (some (140, true)), []⟩,
      ⟨(some 148), .call n_step_Done [(.t 144), (.t 147)], (some (140, true)), []⟩,
      S 149 (.pick (.t 140) (.t 148) (xB false))])
    (.cond (.t 149)
     (.ops [S 150 (.fld 0 (.t 18)),
       S 151 (.ld false 1 (.t 150)),
       S 152 (.ld false 1 (.t 5)),
       S 153 (.mv (.t 12)),
       S 154 (.fld 0 (.t 21)),
       S 155 (.fld 0 (.t 154)),
       S 156 (.fld 1 (.t 155)),
       S 157 (.ld false 1 (.t 156)),
       ⟨(some 158), .call n_runs_Runs_found [(.t 152), (.t 153), (.t 157)], none, [(151, .ld false 1 (.t 150), none)]⟩,
       S 159 (.lit 2 true [[(.full []), (.full [])]] [(0, (.t 158))]),
       S 160 (.app 2 true 48 (.t 151) (.t 159)),
       S 161 (.fld 0 (.t 18)),
       E (.st 1 (.t 161) (.t 160))])
     (.skip)))
    (.seq (.seq (.ops [S 162 (.mv (.t 14)),
      S 163 (.ld true 6 (.t 21)),
      S 164 (.callv (.t 162) [(.t 163)]),
      S 165 (.un .not (.t 164))])
    (.cond (.t 165)
     (.exit 3)
     (.skip)))
    (.seq (.seq (.ops [S 166 (.fld 5 (.t 21)),
      S 167 (.ld false 1 (.t 166))])
    (.cond (.t 167)
     (.seq (.ops [S 169 (.ld false 1 (.t 5)),
       S 170 (.nz (.t 169)),
       S 171 (.fld 4 (.t 170)),
       S 172 (.ld false 1 (.t 171)),
       S 173 (.fld 4 (.t 21)),
       S 174 (.ld false 1 (.t 173)),
       S 175 (.fld 0 (.t 21)),
       S 176 (.fld 0 (.t 175)),
       S 177 (.fld 0 (.t 176)),
       S 178 (.ld false 1 (.t 177)),
       S 179 (.mv (.t 1)),
       S 180 (.ld true 2 (.t 7)),
       S 181 (.call n_chain_Chain_Push [(.t 172), (.t 174), (.t 178), (.t 179), (.t 180)]),
       S 168 (.mv (.t 181)),
       S 182 (.ext (.t 168) 0),
       S 183 (.ext (.t 168) 1),
       S 184 (.fld 0 (.t 21)),
       S 185 (.fld 3 (.t 184)),
       E (.st 1 (.t 185) (.t 182))])
     (.ops [S 186 (.fld 1 (.t 18)),
       S 187 (.ld false 1 (.t 186)),
       S 188 (.ld true 2 (.t 7)),
       S 189 (.lit 2 true [[(eI 0), (eI 0)]] [(0, (.t 188))]),
       S 190 (.app 2 true 16 (.t 187) (.t 189)),
       S 191 (.fld 1 (.t 18)),
       E (.st 1 (.t 191) (.t 190))]))
     (.ops [S 192 (.ld false 1 (.t 5)),
       S 193 (.nz (.t 192)),
       S 194 (.fld 4 (.t 193)),
       S 195 (.ld false 1 (.t 194)),
       S 196 (.fld 0 (.t 21)),
       S 197 (.fld 3 (.t 196)),
       S 198 (.ld false 1 (.t 197)),
       S 199 (.call n_chain_Chain_Keep [(.t 195), (.t 198)])])))
    (.ops [S 200 (.mv (.t 12)),
      S 201 (.mv (.t 12)),
      S 202 (.nz (.t 201)),
      S 203 (.fld 2 (.t 202)),
      S 204 (.ld false 1 (.t 203)),
      S 205 (.fld 0 (.t 21)),
      S 206 (.ld true 4 (.t 205)),
      S 207 (.lit 4 true [[(eI 0), (.full []), (eB false), (eI 0)]] [(0, (.t 206))]),
      S 208 (.app 4 true 48 (.t 204) (.t 207)),
      S 209 (.nz (.t 200)),
      S 210 (.fld 2 (.t 209)),
      E (.st 1 (.t 210) (.t 208))]))))))
   (.ops [S 211 (.bin .add .none (.t 134) (xI 1)),
     S 134 (.mv (.t 211))])))))))
 (.seq (.seq (.ops [S 212 (.mv (.t 19)),
   S 213 (.len 0 (.t 212)),
   S 214 (.mv (xI 0))])
 (.block 4 (.loop [5, 10, 18, 212, 213, 214] (.seq (.ops [S 215 (.bin .lss .none (.t 214) (.t 213))])
   (.seq (.cond (.t 215)
    (.skip)
    (.exit 4))
   (.seq (.block 5 (.seq (.ops [S 216 (.ixa 1 (.t 212) (.t 214)),
      S 217 (.ld false 1 (.t 216)),
      S 23 (.mv (.t 217))])
    (.seq (.ops [S 219 (.ld false 1 (.t 5)),
      S 220 (.nz (.t 219)),
      S 221 (.fld 4 (.t 220)),
      S 222 (.ld false 1 (.t 221)),
      S 223 (.mv (.t 23)),
      S 224 (.call n_chain_Chain_Drop [(.t 222), (.t 223)]),
      S 218 (.mv (.t 224)),
      S 225 (.ext (.t 218) 0),
      S 226 (.ext (.t 218) 1),
      S 24 (.mv (.t 225)),
      S 25 (.mv (.t 226))])
    (.ops [S 227 (.fld 2 (.t 18)),
      S 228 (.ld false 1 (.t 227)),
      S 229 (.mv (.t 24)),
      S 230 (.app 2 true 16 (.t 228) (.t 229)),
      S 231 (.fld 2 (.t 18)),
      E (.st 1 (.t 231) (.t 230))]))))
   (.ops [S 232 (.bin .add .none (.t 214) (xI 1)),
     S 214 (.mv (.t 232))])))))))
 (.seq (.ops [S 233 (.fld 0 (.t 18)),
   S 234 (.ld false 1 (.t 233)),
   S 235 (.call n_slices_SortStableFunc [(.t 234), (.v (.fn (.func 23) [] []))])])
 (.seq (.seq (.ops [S 236 (.fld 0 (.t 18)),
   S 237 (.ld false 1 (.t 236)),
   S 238 (.len 0 (.t 237)),
   S 239 (.mv (xI 0))])
 (.block 6 (.loop [10, 18, 237, 238, 239] (.seq (.ops [S 240 (.bin .lss .none (.t 239) (.t 238))])
   (.seq (.cond (.t 240)
    (.skip)
    (.exit 6))
   (.seq (.block 7 (.seq (.ops [S 241 (.ixa 2 (.t 237) (.t 239)),
      S 242 (.ld true 2 (.t 241)),
      S 27 (.new true [(.full []), (.full [])]),
      E (.st 2 (.t 27) (.t 242))])
    (.ops [S 243 (.fld 1 (.t 18)),
      S 244 (.ld false 1 (.t 243)),
      S 245 (.fld 1 (.t 27)),
      S 246 (.ld false 1 (.t 245)),
      S 247 (.app 2 true 16 (.t 244) (.t 246)),
      S 248 (.fld 1 (.t 18)),
      E (.st 1 (.t 248) (.t 247))])))
   (.ops [S 249 (.bin .add .none (.t 239) (xI 1)),
     S 239 (.mv (.t 249))])))))))
 (.seq (.ops [S 250 (.ld true 4 (.t 18)),
   E (.st 4 (.t 10) (.t 250))])
 (.ret)))))))))))))))))))))),
 [.cell 10 true 4], false, false, false⟩
/- sibyl/sibyllaw14.RunsNil$1 -/
def d_sibyllaw14_RunsNil_1 : DFn := ⟨1,
 .seq (.ops [S 1 (.box true 2 (.t 0)),
   S 2 (.new true [(eI 0), (eI 0), (eI 0), (eI 0), (eI 0), (eI 0)]),
   S 3 (.mv (xB false))])
 (.seq (.ops [S 4 (.build [(eI 0), (eI 0), (eI 0), (eI 0), (eI 0), (eI 0)] []),
   E (.st 6 (.t 2) (.t 4)),
   S 3 (.mv (xB false))])
 (.ret)),
 [.cell 2 true 6, .tmp 3], false, false, false⟩
/- sibyl/sibyllaw14.awake -/
def d_sibyllaw14_awake : DFn := ⟨0,
 .seq (.ops [S 0 (.mv (xB false))])
 (.seq (.ops [S 7 (.build [(eI 0), (eB false), (.full []), (.full [])] []),
   S 8 (.build [(eI 0), (eB false), (.full []), (.full [])] [(0, 1, (xI 1))]),
   S 9 (.lit 4 true [[(eI 0), (eB false), (.full []), (.full [])], [(eI 0), (eB false), (.full []), (.full [])]] [(0, (.t 7)), (1, (.t 8))]),
   S 10 (.build [(.full []), (eI 0), (eB false)] [(0, 1, (.t 9)), (1, 1, (xI 2))]),
   S 1 (.new true [(.full []), (eI 0), (eB false)]),
   E (.st 3 (.t 1) (.t 10))])
 (.seq (.ops [S 11 (.ld true 3 (.t 1)),
   S 12 (.call n_runs_New [(.t 11), (xI 9)]),
   S 2 (.mv (.t 12))])
 (.seq (.ops [S 13 (.build [(eI 0), (eI 0), (eI 0), (eI 0), (eI 0), (eI 0)] []),
   S 14 (.build [(eI 0), (eI 0), (eI 0), (eI 0), (eI 0), (eI 0)] [(0, 1, (xI 1))]),
   S 15 (.build [(eI 0), (eI 0), (eI 0), (eI 0), (eI 0), (eI 0)] []),
   S 16 (.lit 6 true [[(eI 0), (eI 0), (eI 0), (eI 0), (eI 0), (eI 0)], [(eI 0), (eI 0), (eI 0), (eI 0), (eI 0), (eI 0)], [(eI 0), (eI 0), (eI 0), (eI 0), (eI 0), (eI 0)]] [(0, (.t 13)), (1, (.t 14)), (2, (.t 15))]),
   S 3 (.mv (.t 16))])
 (.seq (.ops [S 17 (.mv (.t 2)),
   S 18 (.mv (.t 3)),
   S 19 (.call n_sibyllaw14_feed [(.t 17), (.t 18), (xI 0)]),
   S 4 (.new true [(.full []), (.full []), (.full []), (eB false)]),
   E (.st 4 (.t 4) (.t 19))])
 (.seq (.ops [S 20 (.mv (.t 2)),
   S 21 (.mv (.t 3)),
   S 22 (.call n_sibyllaw14_feed [(.t 20), (.t 21), (xI 1)]),
   S 5 (.new true [(.full []), (.full []), (.full []), (eB false)]),
   E (.st 4 (.t 5) (.t 22))])
 (.seq (.ops [S 23 (.mv (.t 2)),
   S 24 (.mv (.t 3)),
   S 25 (.call n_sibyllaw14_feed [(.t 23), (.t 24), (xI 2)]),
   S 6 (.new true [(.full []), (.full []), (.full []), (eB false)]),
   E (.st 4 (.t 6) (.t 25))])
 (.seq (.ops [S 26 (.fld 0 (.t 4)),
   S 27 (.ld false 1 (.t 26)),
   S 28 (.len 0 (.t 27)),
   S 29 (.bin .eql .none (.t 28) (xI 0)),
   S 30 (.mv (.t 29)),
   ⟨(some 31), .fld 1 (.t 4), (some (30, true)), []⟩,
   ⟨(some 32), .ld false 1 (.t 31), (some (30, true)), []⟩,
   ⟨(some 33), .len 0 (.t 32), (some (30, true)), []⟩,
   ⟨(some 34), .bin .eql .none (.t 33) (xI 1), (some (30, true)), []⟩,
   S 35 (.pick (.t 30) (.t 34) (xB false)),
   S 36 (.mv (.t 35)),
   ⟨(some 37), .fld 0 (.t 5), (some (36, true)), []⟩,
   ⟨(some 38), .ld false 1 (.t 37), (some (36, true)), []⟩,
   ⟨(some 39), .len 0 (.t 38), (some (36, true)), []⟩,
   ⟨(some 40), .bin .eql .none (.t 39) (xI 1), (some (36, true)), []⟩,
   S 41 (.pick (.t 36) (.t 40) (xB false)),
   S 42 (.mv (.t 41)),
   ⟨(some 43), .fld 1 (.t 5), (some (42, true)), []⟩,
   ⟨(some 44), .ld false 1 (.t 43), (some (42, true)), []⟩,
   ⟨(some 45), .len 0 (.t 44), (some (42, true)), []⟩,
   ⟨(some 46), .bin .eql .none (.t 45) (xI 2), (some (42, true)), []⟩,
   S 47 (.pick (.t 42) (.t 46) (xB false)),
   S 48 (.mv (.t 47)),
   ⟨(some 49), .fld 2 (.t 5), (some (48, true)), []⟩,
   ⟨(some 50), .ld false 1 (.t 49), (some (48, true)), []⟩,
   ⟨(some 51), .len 0 (.t 50), (some (48, true)), []⟩,
   ⟨(some 52), .bin .eql .none (.t 51) (xI 0), (some (48, true)), []⟩,
   S 53 (.pick (.t 48) (.t 52) (xB false)),
   S 54 (.mv (.t 53)),
   ⟨(some 55), .fld 1 (.t 6), (some (54, true)), []⟩,
   ⟨(some 56), .ld false 1 (.t 55), (some (54, true)), []⟩,
   ⟨(some 57), .len 0 (.t 56), (some (54, true)), []⟩,
   ⟨(some 58), .bin .eql .none (.t 57) (xI 1), (some (54, true)), []⟩,
   S 59 (.pick (.t 54) (.t 58) (xB false)),
   S 60 (.mv (.t 59)),
   ⟨(some 61), .fld 2 (.t 6), (some (60, true)), []⟩,
   ⟨(some 62), .ld false 1 (.t 61), (some (60, true)), []⟩,
   ⟨(some 63), .len 0 (.t 62), (some (60, true)), []⟩,
   ⟨(some 64), .bin .eql .none (.t 63) (xI 1), (some (60, true)), []⟩,
   S 65 (.pick (.t 60) (.t 64) (xB false)),
   S 66 (.mv (.t 65)),
   ⟨(some 67), .fld 2 (.t 6), (some (66, true)), []⟩,
   ⟨(some 68), .ld false 1 (.t 67), (some (66, true)), []⟩,
   ⟨(some 69), .ixa 2 (.t 68) (xI 0), (some (66, true)), []⟩,
   ⟨(some 70), .fld 0 (.t 69), (some (66, true)), []⟩,
   ⟨(some 71), .ld false 1 (.t 70), (some (66, true)), []⟩,
   ⟨(some 72), .bin .eql .none (.t 71) (xI 0), (some (66, true)), []⟩,
   S 73 (.pick (.t 66) (.t 72) (xB false)),
   S 74 (.mv (.t 73)),
   ⟨(some 75), .mv (.t 2), (some (74, true)), []⟩,
   ⟨(some 76), .call n_runs_Runs_Count [(.t 75)], (some (74, true)), []⟩,
   ⟨(some 77), .bin .eql .none (.t 76) (xI 1), (some (74, true)), []⟩,
   S 78 (.pick (.t 74) (.t 77) (xB false)),
   S 0 (.mv (.t 78))])
 (.ret)))))))),
 [.tmp 0], false, true, false⟩
/- (*sibyl/runs.Runs).End -/
def d_runs_Runs_End : DFn := ⟨1,
 .seq (.ops [S 2 (.nils 2 true)])
 (.seq (.seq (.ops [S 10 (.mv (.t 0)),
   S 11 (.bin .eql .ptr (.t 10) (.v .nilp))])
 (.cond (.t 11)
  (.seq (.ops [S 2 (.nils 2 true)])
  (.ret))
  (.skip)))
 (.seq (.ops [S 3 (.nils 2 true)])
 (.seq (.seq (.ops [E (.nz (.v .junk))])
 (.block 0 (.loop [0, 3, 5, 18] (.seq (.ops [E (.nz (.v .junk))])
   (.seq (.cond (.t 18)
    (.skip)
    (.exit 0))
   (.block 1 (.seq (.ops [E (.nz (.v .junk))])
    (.seq (.ops [S 21 (.mv (.t 5)),
      S 22 (.nz (.t 21)),
      S 23 (.fld 2 (.t 22)),
      S 24 (.ld false 1 (.t 23)),
      S 25 (.len 0 (.t 24)),
      S 26 (.mv (xI 0))])
    (.block 2 (.loop [0, 3, 5, 18, 24, 25, 26] (.seq (.ops [S 27 (.bin .lss .none (.t 26) (.t 25))])
      (.seq (.cond (.t 27)
       (.skip)
       (.exit 2))
      (.seq (.block 3 (.seq (.ops [S 28 (.ixa 4 (.t 24) (.t 26)),
         S 29 (.ld true 4 (.t 28)),
         S 7 (.new true [(eI 0), (.full []), (eB false), (eI 0)]),
         E (.st 4 (.t 7) (.t 29))])
       (.seq (.ops [S 31 (.mv (.t 0)),
         S 32 (.nz (.t 31)),
         S 33 (.fld 4 (.t 32)),
         S 34 (.ld false 1 (.t 33)),
         S 35 (.fld 3 (.t 7)),
         S 36 (.ld false 1 (.t 35)),
         S 37 (.call n_chain_Chain_Drop [(.t 34), (.t 36)]),
         S 30 (.mv (.t 37)),
         S 38 (.ext (.t 30) 0),
         S 39 (.ext (.t 30) 1),
         S 8 (.mv (.t 38)),
         S 9 (.mv (.t 39))])
       (.ops [S 40 (.mv (.t 3)),
         S 41 (.mv (.t 8)),
         S 42 (.app 2 true 16 (.t 40) (.t 41)),
         S 3 (.mv (.t 42))]))))
      (.ops [S 43 (.bin .add .none (.t 26) (xI 1)),
        S 26 (.mv (.t 43))]))))))))))))))
 (.seq (.ops [E (.nz (.v .junk))])
 (.seq (.ops [S 48 (.mv (.t 3)),
   S 49 (.call n_slices_SortFunc [(.t 48), (.v (.fn (.func 27) [] []))])])
 (.seq (.ops [S 50 (.mv (.t 3)),
   S 2 (.mv (.t 50))])
 (.ret))))))),
 [.tmp 2], false, false, false⟩
/- (*sibyl/runs.Runs).Count -/
def d_runs_Runs_Count : DFn := ⟨1,
 .seq (.ops [S 2 (.mv (xI 0))])
 (.seq (.seq (.ops [S 6 (.mv (.t 0)),
   S 7 (.bin .eql .ptr (.t 6) (.v .nilp))])
 (.cond (.t 7)
  (.seq (.ops [S 2 (.mv (xI 0))])
  (.ret))
  (.skip)))
 (.seq (.ops [S 3 (.mv (xI 0))])
 (.seq (.seq (.ops [S 8 (.mv (.t 0)),
   S 9 (.nz (.t 8)),
   S 10 (.fld 5 (.t 9)),
   S 11 (.ld false 1 (.t 10))])
 (.ops [S 3 (.mnth (.t 11) (xI 2))]))
 (.seq (.ops [S 24 (.mv (.t 3)),
   S 2 (.mv (.t 24))])
 (.ret))))),
 [.tmp 2], false, false, false⟩
/- (*sibyl/runs.Runs).Misses -/
def d_runs_Runs_Misses : DFn := ⟨1,
 .seq (.ops [S 2 (.mv (xI 0))])
 (.seq (.seq (.ops [S 3 (.mv (.t 0)),
   S 4 (.bin .eql .ptr (.t 3) (.v .nilp))])
 (.cond (.t 4)
  (.seq (.ops [S 2 (.mv (xI 0))])
  (.ret))
  (.skip)))
 (.seq (.ops [S 5 (.mv (.t 0)),
   S 6 (.nz (.t 5)),
   S 7 (.fld 7 (.t 6)),
   S 8 (.ld false 1 (.t 7)),
   S 2 (.mv (.t 8))])
 (.ret))),
 [.tmp 2], false, false, false⟩
/- (*sibyl/runs.Runs).Lost -/
def d_runs_Runs_Lost : DFn := ⟨1,
 .seq (.ops [S 2 (.mv (xB false))])
 (.seq (.ops [S 3 (.mv (.t 0)),
   S 4 (.bin .neq .ptr (.t 3) (.v .nilp)),
   S 5 (.mv (.t 4)),
   ⟨(some 6), .mv (.t 0), (some (5, true)), []⟩,
   ⟨(some 7), .nz (.t 6), (some (5, true)), []⟩,
   ⟨(some 8), .fld 6 (.t 7), (some (5, true)), []⟩,
   ⟨(some 9), .ld false 1 (.t 8), (some (5, true)), []⟩,
   S 10 (.pick (.t 5) (.t 9) (xB false)),
   S 2 (.mv (.t 10))])
 (.ret)),
 [.tmp 2], false, false, false⟩
/- sibyl/runs.New -/
def d_runs_New : DFn := ⟨2,
 .seq (.ops [S 2 (.box true 3 (.t 0)),
   S 4 (.mv (.v .nilp))])
 (.seq (.seq (.ops [S 5 (.ld true 3 (.t 2)),
   S 6 (.call n_table_Right [(.t 5)]),
   S 7 (.un .not (.t 6)),
   S 8 (.mv (.t 7)),
   ⟨(some 9), .mv (.t 1), (some (8, false)), []⟩,
   ⟨(some 10), .bin .lss .none (.t 9) (xI 1), (some (8, false)), []⟩,
   S 11 (.pick (.t 8) (xB true) (.t 10)),
   S 12 (.mv (.t 11)),
   ⟨(some 13), .mv (.t 1), (some (12, false)), []⟩,
   ⟨(some 14), .bin .gtr .none (.t 13) (xI 4096), (some (12, false)), []⟩,
   S 15 (.pick (.t 12) (xB true) (.t 14))])
 (.cond (.t 15)
  (.seq (.ops [S 4 (.mv (.v .nilp))])
  (.ret))
  (.skip)))
 (.seq (.ops [S 16 (.ld true 3 (.t 2)),
   S 17 (.mv (.t 1)),
   S 19 (.mkmap),
   ⟨(some 18), .call n_chain_New [], none, [(16, .ld true 3 (.t 2), none)]⟩,
   S 20 (.build [(.full []), (eI 0), (eB false), (eI 0), .nilp, .nilmap, (eB false), (eI 0)] [(0, 3, (.t 16)), (3, 1, (.t 17)), (4, 1, (.t 18)), (5, 1, (.t 19))]),
   S 21 (.box true 8 (.t 20)),
   S 4 (.mv (.t 21))])
 (.ret))),
 [.tmp 4], false, false, false⟩
/- slices.Clone[[]sibyl/runs.event,sibyl/runs.event] -/
def d_slices_Clone : DFn := ⟨1,
 .seq (.ops [S 2 (.nils 3 true)])
 (.seq (.ops [S 5 (.lit 3 true [] []),
   S 6 (.mv (.t 0)),
   S 7 (.app 3 true 24 (.t 5) (.t 6)),
   S 2 (.mv (.t 7))])
 (.ret)),
 [.tmp 2], false, false, false⟩
/- (*sibyl/runs.Runs).grow -/
def d_runs_Runs_grow : DFn := ⟨4,
 .seq (.ops [S 4 (.box false 1 (.t 0)),
   S 5 (.box false 1 (.t 1)),
   S 6 (.box true 6 (.t 2)),
   S 7 (.box false 1 (.t 3)),
   S 8 (.nils 6 true)])
 (.seq (.ops [S 24 (.ld false 1 (.t 5)),
   S 25 (.nz (.t 24)),
   S 26 (.fld 0 (.t 25)),
   S 27 (.ld false 1 (.t 26)),
   S 28 (.bin .sub .none (.t 27) (xI 8)),
   S 29 (.mnx true (xI 0) (.t 28)),
   S 9 (.mv (.t 29))])
 (.seq (.ops [S 30 (.mkf (.func n_runs_Runs_grow_1) [] [(.t 7), (.t 5), (.t 4)]),
   S 10 (.mv (.t 30))])
 (.seq (.ops [S 11 (.nils 6 true)])
 (.seq (.ops [S 31 (.ld false 1 (.t 5)),
   S 32 (.nz (.t 31)),
   S 33 (.fld 0 (.t 32)),
   S 34 (.ld false 1 (.t 33)),
   S 35 (.bin .sub .none (.t 34) (xI 1)),
   S 12 (.mv (.t 35))])
 (.seq (.seq (.ops [S 36 (.ld false 1 (.t 5)),
   S 37 (.nz (.t 36)),
   S 38 (.fld 2 (.t 37)),
   S 39 (.ld false 1 (.t 38)),
   S 40 (.len 0 (.t 39)),
   S 41 (.mv (xI 0))])
 (.block 0 (.loop [4, 5, 6, 9, 10, 11, 12, 39, 40, 41] (.seq (.ops [S 42 (.bin .lss .none (.t 41) (.t 40))])
   (.seq (.cond (.t 42)
    (.skip)
    (.exit 0))
   (.seq (.block 1 (.seq (.ops [S 43 (.ixa 4 (.t 39) (.t 41)),
      S 44 (.ld true 4 (.t 43)),
      S 14 (.new true [(eI 0), (.full []), (eB false), (eI 0)]),
      E (.st 4 (.t 14) (.t 44))])
    (.seq (.seq (.ops [S 45 (.mv (.t 12)),
      S 46 (.fld 0 (.t 14)),
      S 47 (.fld 1 (.t 46)),
      S 48 (.ld false 1 (.t 47)),
      S 49 (.ixa 1 (.t 48) (xI 0)),
      S 50 (.ld false 1 (.t 49)),
      S 51 (.ixa 1 (.t 50) (xI 0)),
      S 52 (.ld false 1 (.t 51)),
      S 53 (.bin .sub .none (.t 45) (.t 52)),
      S 54 (.ld false 1 (.t 4)),
      S 55 (.nz (.t 54)),
      S 56 (.fld 0 (.t 55)),
      S 57 (.fld 1 (.t 56)),
      S 58 (.ld false 1 (.t 57)),
      S 59 (.bin .geq .none (.t 53) (.t 58))])
    (.cond (.t 59)
     (.exit 1)
     (.skip)))
    (.seq (.ops [S 60 (.ld false 1 (.t 5)),
      S 61 (.nz (.t 60)),
      S 62 (.fld 0 (.t 61)),
      S 63 (.ld false 1 (.t 62)),
      S 64 (.mv (.t 9)),
      S 65 (.bin .sub .none (.t 63) (.t 64)),
      S 66 (.mks 6 true 48 [(eI 0), (eI 0), (eI 0), (eI 0), (eI 0), (eI 0)] (.t 65) (.t 65)),
      S 15 (.mv (.t 66))])
    (.seq (.ops [S 67 (.mv (.t 15)),
      S 68 (.mv (.t 12)),
      S 69 (.mv (.t 9)),
      S 70 (.bin .sub .none (.t 68) (.t 69)),
      S 71 (.ld true 6 (.t 6)),
      S 72 (.ixa 6 (.t 67) (.t 70)),
      E (.st 6 (.t 72) (.t 71))])
    (.seq (.seq (.ops [S 73 (.fld 0 (.t 14)),
      S 74 (.fld 1 (.t 73)),
      S 75 (.ld false 1 (.t 74)),
      S 76 (.call n_tuple_Flat [(.t 75)]),
      S 77 (.len 0 (.t 76)),
      S 78 (.mv (xI 0))])
    (.block 2 (.loop [4, 5, 6, 9, 10, 11, 12, 14, 15, 39, 40, 41, 76, 77, 78] (.seq (.ops [S 79 (.bin .lss .none (.t 78) (.t 77))])
      (.seq (.cond (.t 79)
       (.skip)
       (.exit 2))
      (.seq (.block 3 (.seq (.ops [S 80 (.ixa 1 (.t 76) (.t 78)),
         S 81 (.ld false 1 (.t 80)),
         S 17 (.mv (.t 81))])
       (.ops [S 82 (.mv (.t 15)),
         S 83 (.mv (.t 17)),
         S 84 (.mv (.t 9)),
         S 85 (.bin .sub .none (.t 83) (.t 84)),
         S 86 (.mv (.t 10)),
         S 87 (.mv (.t 17)),
         S 88 (.callv (.t 86) [(.t 87)]),
         S 89 (.ixa 6 (.t 82) (.t 85)),
         E (.st 6 (.t 89) (.t 88))])))
      (.ops [S 90 (.bin .add .none (.t 78) (xI 1)),
        S 78 (.mv (.t 90))])))))))
    (.seq (.ops [S 91 (.fld 0 (.t 14)),
      S 92 (.fld 0 (.t 91)),
      S 93 (.ld false 1 (.t 92)),
      S 94 (.fld 0 (.t 14)),
      S 95 (.fld 1 (.t 94)),
      S 96 (.ld false 1 (.t 95)),
      S 97 (.mv (.t 9)),
      S 99 (.fld 0 (.t 14)),
      S 100 (.fld 2 (.t 99)),
      S 101 (.ld false 1 (.t 100)),
      S 18 (.new true [(eI 0), (.full []), (eB false)]),
      ⟨(some 98), .call n_runs_shifted [(.t 96), (.t 97)], none, [(101, .ld false 1 (.t 100), none), (93, .ld false 1 (.t 92), none)]⟩,
      S 102 (.build [(eI 0), (.full []), (eB false)] [(0, 1, (.t 93)), (1, 1, (.t 98)), (2, 1, (.t 101))]),
      E (.st 3 (.t 18) (.t 102))])
    (.seq (.ops [S 103 (.ld false 1 (.t 4)),
      S 104 (.nz (.t 103)),
      S 105 (.fld 0 (.t 104)),
      S 106 (.ld true 3 (.t 105)),
      S 107 (.mv (.t 15)),
      S 108 (.ld true 3 (.t 18)),
      S 111 (.mv (xI 0)),
      S 109 (.call n_step_Step [(.t 106), (.t 107), (.t 108)]),
      S 110 (.len 0 (.t 109))])
    (.block 4 (.loop [4, 5, 6, 9, 10, 11, 12, 14, 39, 40, 41, 109, 110, 111] (.seq (.ops [S 112 (.bin .lss .none (.t 111) (.t 110))])
      (.seq (.cond (.t 112)
       (.skip)
       (.exit 4))
      (.seq (.block 5 (.seq (.ops [S 113 (.ixa 3 (.t 109) (.t 111)),
         S 114 (.ld true 3 (.t 113)),
         S 20 (.new true [(eI 0), (.full []), (eB false)]),
         E (.st 3 (.t 20) (.t 114))])
       (.seq (.ops [S 115 (.fld 1 (.t 20)),
         S 116 (.ld false 1 (.t 115)),
         S 117 (.mv (.t 9)),
         S 118 (.un .neg (.t 117)),
         S 119 (.call n_runs_shifted [(.t 116), (.t 118)]),
         S 120 (.fld 1 (.t 20)),
         E (.st 1 (.t 120) (.t 119))])
       (.seq (.ops [S 121 (.fld 1 (.t 20)),
         S 122 (.ld false 1 (.t 121)),
         S 123 (.fld 0 (.t 20)),
         S 124 (.ld false 1 (.t 123)),
         S 125 (.ixa 1 (.t 122) (.t 124)),
         S 126 (.ld false 1 (.t 125)),
         S 21 (.mv (.t 126))])
       (.ops [S 127 (.mv (.t 11)),
         S 128 (.ld true 3 (.t 20)),
         S 129 (.fld 3 (.t 14)),
         S 130 (.ld false 1 (.t 129)),
         S 131 (.build [(eI 0), (.full []), (eB false), (eI 0)] [(0, 3, (.t 128)), (3, 1, (.t 130))]),
         S 132 (.fld 3 (.t 14)),
         S 133 (.ld false 1 (.t 132)),
         S 134 (.mv (.t 21)),
         S 135 (.mv (.t 21)),
         S 136 (.len 0 (.t 135)),
         S 137 (.bin .sub .none (.t 136) (xI 1)),
         S 138 (.ixa 1 (.t 134) (.t 137)),
         S 139 (.ld false 1 (.t 138)),
         S 140 (.mv (.t 12)),
         S 141 (.bin .eql .none (.t 139) (.t 140)),
         S 142 (.build [(eI 0), (.full []), (eB false), (eI 0), (eI 0), (eB false)] [(0, 4, (.t 131)), (4, 1, (.t 133)), (5, 1, (.t 141))]),
         S 143 (.lit 6 true [[(eI 0), (.full []), (eB false), (eI 0), (eI 0), (eB false)]] [(0, (.t 142))]),
         S 144 (.app 6 true 64 (.t 127) (.t 143)),
         S 11 (.mv (.t 144))])))))
      (.ops [S 145 (.bin .add .none (.t 111) (xI 1)),
        S 111 (.mv (.t 145))]))))))))))))))
   (.ops [S 146 (.bin .add .none (.t 41) (xI 1)),
     S 41 (.mv (.t 146))])))))))
 (.seq (.ops [S 148 (.ld false 1 (.t 4)),
   S 149 (.nz (.t 148)),
   S 150 (.fld 0 (.t 149)),
   S 151 (.ld true 3 (.t 150)),
   S 152 (.ld true 6 (.t 6)),
   S 153 (.lit 6 true [[(eI 0), (eI 0), (eI 0), (eI 0), (eI 0), (eI 0)]] [(0, (.t 152))]),
   S 22 (.new true [(eI 0), (.full []), (eB false)]),
   S 154 (.call n_step_Start [(.t 151), (.t 153)]),
   S 147 (.mv (.t 154)),
   S 155 (.ext (.t 147) 0),
   S 156 (.ext (.t 147) 1),
   E (.st 3 (.t 22) (.t 155)),
   S 23 (.mv (.t 156))])
 (.seq (.seq (.ops [S 157 (.mv (.t 23))])
 (.cond (.t 157)
  (.seq (.ops [S 158 (.mv (.t 12)),
    S 159 (.lit 1 false [[(eI 0)]] [(0, (.t 158))]),
    S 160 (.lit 1 false [[(.full [])]] [(0, (.t 159))]),
    S 161 (.fld 1 (.t 22)),
    E (.st 1 (.t 161) (.t 160))])
  (.ops [S 162 (.mv (.t 11)),
    S 163 (.ld true 3 (.t 22)),
    S 164 (.build [(eI 0), (.full []), (eB false), (eI 0)] [(0, 3, (.t 163)), (3, 1, (xI (-1)))]),
    S 165 (.build [(eI 0), (.full []), (eB false), (eI 0), (eI 0), (eB false)] [(0, 4, (.t 164)), (4, 1, (xI (-1))), (5, 1, (xB true))]),
    S 166 (.lit 6 true [[(eI 0), (.full []), (eB false), (eI 0), (eI 0), (eB false)]] [(0, (.t 165))]),
    S 167 (.app 6 true 64 (.t 162) (.t 166)),
    S 11 (.mv (.t 167))]))
  (.skip)))
 (.seq (.ops [S 168 (.mv (.t 11)),
   S 8 (.mv (.t 168))])
 (.ret))))))))),
 [.tmp 8], false, false, false⟩
/- (*sibyl/runs.Runs).Feed$1 -/
def d_runs_Runs_Feed_1 : DFn := ⟨2,
 .seq (.ops [S 2 (.box true 6 (.t 0)),
   S 3 (.mv (xB false))])
 (.seq (.ops [S 4 (.ld false 1 (.t 1)),
   S 5 (.nz (.t 4)),
   S 6 (.fld 0 (.t 5)),
   S 7 (.ld true 3 (.t 6)),
   S 8 (.fld 0 (.t 2)),
   S 9 (.fld 0 (.t 8)),
   S 10 (.ld true 3 (.t 9)),
   S 11 (.call n_step_Done [(.t 7), (.t 10)]),
   S 12 (.un .not (.t 11)),
   S 13 (.mv (.t 12)),
   ⟨(some 14), .ld false 1 (.t 1), (some (13, false)), []⟩,
   ⟨(some 15), .nz (.t 14), (some (13, false)), []⟩,
   ⟨(some 16), .fld 0 (.t 15), (some (13, false)), []⟩,
   ⟨(some 17), .fld 0 (.t 16), (some (13, false)), []⟩,
   ⟨(some 18), .ld false 1 (.t 17), (some (13, false)), []⟩,
   ⟨(some 19), .fld 0 (.t 2), (some (13, false)), []⟩,
   ⟨(some 20), .fld 0 (.t 19), (some (13, false)), []⟩,
   ⟨(some 21), .fld 0 (.t 20), (some (13, false)), []⟩,
   ⟨(some 22), .ld false 1 (.t 21), (some (13, false)), []⟩,
   ⟨(some 23), .ixa 4 (.t 18) (.t 22), (some (13, false)), []⟩,
   ⟨(some 24), .fld 1 (.t 23), (some (13, false)), []⟩,
   ⟨(some 25), .ld false 1 (.t 24), (some (13, false)), []⟩,
   S 26 (.pick (.t 13) (xB true) (.t 25)),
   S 3 (.mv (.t 26))])
 (.ret)),
 [.tmp 3], false, false, false⟩
/- sibyl/step.Done -/
def d_step_Done : DFn := ⟨2,
 .seq (.ops [S 2 (.box true 3 (.t 0)),
   S 3 (.box true 3 (.t 1)),
   S 4 (.mv (xB false))])
 (.seq (.ops [S 5 (.ld true 3 (.t 2)),
   S 6 (.call n_table_Right [(.t 5)]),
   S 7 (.mv (.t 6)),
   ⟨(some 8), .fld 0 (.t 3), (some (7, true)), []⟩,
   ⟨(some 9), .ld false 1 (.t 8), (some (7, true)), []⟩,
   ⟨(some 10), .fld 0 (.t 2), (some (7, true)), []⟩,
   ⟨(some 11), .ld false 1 (.t 10), (some (7, true)), []⟩,
   ⟨(some 12), .len 0 (.t 11), (some (7, true)), []⟩,
   ⟨(some 13), .bin .sub .none (.t 12) (xI 1), (some (7, true)), []⟩,
   ⟨(some 14), .bin .eql .none (.t 9) (.t 13), (some (7, true)), []⟩,
   S 15 (.pick (.t 7) (.t 14) (xB false)),
   S 4 (.mv (.t 15))])
 (.ret)),
 [.tmp 4], false, false, false⟩
/- sibyl/runs.mapped[sibyl/runs.run,int] -/
def d_runs_mapped : DFn := ⟨2,
 .seq (.ops [S 4 (.nils 1 false)])
 (.seq (.ops [S 8 (.mv (.t 0)),
   S 9 (.len 0 (.t 8)),
   S 10 (.mks 1 false 8 [(eI 0)] (.t 9) (.t 9)),
   S 5 (.mv (.t 10))])
 (.seq (.seq (.ops [S 11 (.mv (.t 0)),
   S 12 (.len 0 (.t 11)),
   S 13 (.mv (xI 0))])
 (.block 0 (.loop [1, 5, 11, 12, 13] (.seq (.ops [S 14 (.bin .lss .none (.t 13) (.t 12))])
   (.seq (.cond (.t 14)
    (.skip)
    (.exit 0))
   (.seq (.block 1 (.seq (.ops [S 15 (.mv (.t 13)),
      S 16 (.ixa 4 (.t 11) (.t 13)),
      S 17 (.ld true 4 (.t 16)),
      S 7 (.new true [(eI 0), (.full []), (eB false), (eI 0)]),
      S 6 (.mv (.t 15)),
      E (.st 4 (.t 7) (.t 17))])
    (.ops [S 18 (.mv (.t 5)),
      S 19 (.mv (.t 6)),
      S 20 (.mv (.t 1)),
      S 21 (.ld true 4 (.t 7)),
      S 22 (.callv (.t 20) [(.t 21)]),
      S 23 (.ixa 1 (.t 18) (.t 19)),
      E (.st 1 (.t 23) (.t 22))])))
   (.ops [S 24 (.bin .add .none (.t 13) (xI 1)),
     S 13 (.mv (.t 24))])))))))
 (.seq (.ops [S 25 (.mv (.t 5)),
   S 4 (.mv (.t 25))])
 (.ret)))),
 [.tmp 4], false, false, false⟩
/- (*sibyl/runs.Runs).Feed$2 -/
def d_runs_Runs_Feed_2 : DFn := ⟨1,
 .seq (.ops [S 1 (.box true 4 (.t 0)),
   S 2 (.mv (xI 0))])
 (.seq (.ops [S 3 (.fld 3 (.t 1)),
   S 4 (.ld false 1 (.t 3)),
   S 2 (.mv (.t 4))])
 (.ret)),
 [.tmp 2], false, false, false⟩
/- (*sibyl/runs.Runs).found -/
def d_runs_Runs_found : DFn := ⟨3,
 .seq (.ops [S 4 (.box false 1 (.t 1)),
   S 6 (.new true [(.full []), (.full [])])])
 (.seq (.ops [S 8 (.mkf (.func n_runs_Runs_found_1) [] [(.t 4)]),
   S 7 (.new false [.nilf]),
   E (.st 1 (.t 7) (.t 8))])
 (.seq (.ops [S 9 (.mv (.t 2)),
   S 10 (.mkf (.func n_runs_Runs_found_2) [] [(.t 7)]),
   S 11 (.call n_runs_mapped_38 [(.t 9), (.t 10)]),
   S 12 (.mv (.t 2)),
   S 13 (.call n_tuple_Flat [(.t 12)]),
   S 14 (.mkf (.func n_runs_Runs_found_3) [] [(.t 7)]),
   S 15 (.call n_runs_mapped_42 [(.t 13), (.t 14)]),
   S 16 (.build [(.full []), (.full [])] [(0, 1, (.t 11)), (1, 1, (.t 15))]),
   E (.st 2 (.t 6) (.t 16))])
 (.ret))),
 [.cell 6 true 2], false, false, false⟩
/- (*sibyl/chain.Chain).Push -/
def d_chain_Chain_Push : DFn := ⟨5,
 .seq (.ops [S 9 (.box true 2 (.t 4)),
   S 10 (.mv (xI 0)),
   S 11 (.mv (xB false))])
 (.seq (.ops [S 14 (.mv (.t 0)),
   S 15 (.mv (.t 1)),
   S 16 (.call n_chain_Chain_at [(.t 14), (.t 15)]),
   S 12 (.mv (.t 16))])
 (.seq (.block 0 (.seq (.seq (.ops [S 18 (.mv (.t 0)),
    S 19 (.bin .eql .ptr (.t 18) (.v .nilp)),
    S 17 (.mv (.t 19))])
  (.cond (.t 17)
   (.skip)
   (.ops [S 20 (.mv (.t 12)),
     S 21 (.bin .eql .ptr (.t 20) (.v .nilp)),
     S 22 (.mv (.t 21)),
     ⟨(some 23), .mv (.t 1), (some (22, true)), []⟩,
     ⟨(some 24), .bin .neq .none (.t 23) (xI (-1)), (some (22, true)), []⟩,
     ⟨(some 25), .mv (.t 24), (some (22, true)), []⟩,
     ⟨(some 26), .mv (.t 2), (some (25, false)), []⟩,
     ⟨(some 27), .bin .neq .none (.t 26) (xI 0), (some (25, false)), []⟩,
     ⟨(some 28), .pick (.t 25) (xB true) (.t 27), (some (22, true)), []⟩,
     S 29 (.pick (.t 22) (.t 28) (xB false)),
     S 17 (.mv (.t 29))])))
  (.cond (.t 17)
   (.seq (.ops [S 10 (.mv (xI (-1))),
     S 11 (.mv (xB false))])
   (.ret))
   (.seq (.ops [S 31 (.mv (.t 12)),
     S 32 (.bin .neq .ptr (.t 31) (.v .nilp)),
     S 30 (.mv (.t 32))])
   (.cond (.t 30)
    (.seq (.seq (.ops [S 33 (.mv (.t 2)),
      S 34 (.mv (.t 12)),
      S 35 (.nz (.t 34)),
      S 36 (.fld 1 (.t 35)),
      S 37 (.ld false 1 (.t 36)),
      S 38 (.bin .lss .none (.t 33) (.t 37)),
      S 39 (.mv (.t 38)),
      ⟨(some 40), .mv (.t 2), (some (39, false)), []⟩,
      ⟨(some 41), .mv (.t 12), (some (39, false)), []⟩,
      ⟨(some 42), .nz (.t 41), (some (39, false)), []⟩,
      ⟨(some 43), .fld 1 (.t 42), (some (39, false)), []⟩,
      ⟨(some 44), .ld false 1 (.t 43), (some (39, false)), []⟩,
      ⟨(some 45), .bin .add .none (.t 44) (xI 1), (some (39, false)), []⟩,
      ⟨(some 46), .mnx false (.t 45) (xI 5), (some (39, false)), []⟩,
      ⟨(some 47), .bin .gtr .none (.t 40) (.t 46), (some (39, false)), []⟩,
      S 48 (.pick (.t 39) (xB true) (.t 47))])
    (.cond (.t 48)
     (.seq (.ops [S 10 (.mv (xI (-1))),
       S 11 (.mv (xB false))])
     (.ret))
     (.skip)))
    (.ops [S 49 (.mv (.t 12)),
      S 50 (.nz (.t 49)),
      S 51 (.fld 5 (.t 50)),
      S 52 (.ld false 1 (.t 51)),
      S 53 (.bin .add .none (.t 52) (xI 1)),
      S 54 (.nz (.t 49)),
      S 55 (.fld 5 (.t 54)),
      E (.st 1 (.t 55) (.t 53))]))
    (.skip))))))
 (.seq (.ops [S 56 (.mv (.t 0)),
   S 57 (.nz (.t 56)),
   S 58 (.fld 1 (.t 57)),
   S 59 (.ld false 1 (.t 58)),
   S 13 (.mv (.t 59))])
 (.seq (.ops [S 60 (.mv (.t 0)),
   S 61 (.nz (.t 60)),
   S 62 (.fld 0 (.t 61)),
   S 63 (.ld false 1 (.t 62)),
   S 64 (.mv (.t 13)),
   S 65 (.mv (.t 1)),
   S 66 (.mv (.t 2)),
   S 67 (.mv (.t 3)),
   S 68 (.ld true 2 (.t 9)),
   S 69 (.build [(eI 0), (eI 0), (eI 0), (eI 0), (eI 0), (eI 0)] [(0, 1, (.t 65)), (1, 1, (.t 66)), (2, 1, (.t 67)), (3, 2, (.t 68)), (5, 1, (xI 1))]),
   S 70 (.box true 6 (.t 69)),
   E (.upd .int (.t 63) (.t 64) (.t 70))])
 (.seq (.ops [S 71 (.mv (.t 0)),
   S 72 (.nz (.t 71)),
   S 73 (.fld 1 (.t 72)),
   S 74 (.ld false 1 (.t 73)),
   S 75 (.bin .add .none (.t 74) (xI 1)),
   S 76 (.nz (.t 71)),
   S 77 (.fld 1 (.t 76)),
   E (.st 1 (.t 77) (.t 75))])
 (.seq (.ops [S 78 (.mv (.t 13)),
   S 10 (.mv (.t 78)),
   S 11 (.mv (xB true))])
 (.ret))))))),
 [.tmp 10, .tmp 11], false, false, false⟩
/- (*sibyl/chain.Chain).Keep -/
def d_chain_Chain_Keep : DFn := ⟨2,
 .seq (.ops [S 4 (.mv (xB false))])
 (.seq (.ops [S 6 (.mv (.t 0)),
   S 7 (.mv (.t 1)),
   S 8 (.call n_chain_Chain_at [(.t 6), (.t 7)]),
   S 5 (.mv (.t 8))])
 (.seq (.seq (.ops [S 9 (.mv (.t 5)),
   S 10 (.bin .neq .ptr (.t 9) (.v .nilp))])
 (.cond (.t 10)
  (.ops [S 11 (.mv (.t 5)),
    S 12 (.nz (.t 11)),
    S 13 (.fld 5 (.t 12)),
    S 14 (.ld false 1 (.t 13)),
    S 15 (.bin .add .none (.t 14) (xI 1)),
    S 16 (.nz (.t 11)),
    S 17 (.fld 5 (.t 16)),
    E (.st 1 (.t 17) (.t 15))])
  (.skip)))
 (.seq (.ops [S 18 (.mv (.t 5)),
   S 19 (.bin .neq .ptr (.t 18) (.v .nilp)),
   S 4 (.mv (.t 19))])
 (.ret)))),
 [.tmp 4], false, false, false⟩
/- (*sibyl/chain.Chain).Drop -/
def d_chain_Chain_Drop : DFn := ⟨2,
 .seq (.ops [S 4 (.nils 2 true),
   S 5 (.mv (xB false))])
 (.seq (.ops [S 8 (.mv (.t 0)),
   S 9 (.mv (.t 1)),
   S 10 (.call n_chain_Chain_at [(.t 8), (.t 9)]),
   S 6 (.mv (.t 10))])
 (.seq (.seq (.ops [S 11 (.mv (.t 6)),
   S 12 (.bin .eql .ptr (.t 11) (.v .nilp))])
 (.cond (.t 12)
  (.seq (.ops [S 4 (.nils 2 true),
    S 5 (.mv (xB false))])
  (.ret))
  (.skip)))
 (.seq (.ops [S 7 (.nils 2 true)])
 (.seq (.block 0 (.loop [0, 1, 6, 7] (.seq (.seq (.ops [S 13 (.mv (.t 6)),
     S 14 (.bin .neq .ptr (.t 13) (.v .nilp))])
   (.cond (.t 14)
    (.skip)
    (.exit 0)))
   (.block 1 (.seq (.ops [S 15 (.mv (.t 6)),
      S 16 (.nz (.t 15)),
      S 17 (.fld 5 (.t 16)),
      S 18 (.ld false 1 (.t 17)),
      S 19 (.bin .sub .none (.t 18) (xI 1)),
      S 20 (.nz (.t 15)),
      S 21 (.fld 5 (.t 20)),
      E (.st 1 (.t 21) (.t 19))])
    (.seq (.seq (.ops [S 22 (.mv (.t 6)),
      S 23 (.nz (.t 22)),
      S 24 (.fld 5 (.t 23)),
      S 25 (.ld false 1 (.t 24)),
      S 26 (.bin .gtr .none (.t 25) (xI 0))])
    (.cond (.t 26)
     (.exit 0)
     (.skip)))
    (.seq (.ops [S 27 (.mv (.t 7)),
      S 28 (.mv (.t 6)),
      S 29 (.nz (.t 28)),
      S 30 (.fld 3 (.t 29)),
      S 31 (.ld true 2 (.t 30)),
      S 32 (.lit 2 true [[(eI 0), (eI 0)]] [(0, (.t 31))]),
      S 33 (.app 2 true 16 (.t 27) (.t 32)),
      S 7 (.mv (.t 33))])
    (.seq (.ops [S 34 (.mv (.t 0)),
      S 35 (.nz (.t 34)),
      S 36 (.fld 0 (.t 35)),
      S 37 (.ld false 1 (.t 36)),
      S 38 (.mv (.t 1)),
      E (.del .int (.t 37) (.t 38))])
    (.seq (.ops [S 39 (.mv (.t 6)),
      S 40 (.nz (.t 39)),
      S 41 (.fld 0 (.t 40)),
      S 42 (.ld false 1 (.t 41)),
      S 1 (.mv (.t 42))])
    (.ops [S 43 (.mv (.t 0)),
      S 44 (.mv (.t 1)),
      S 45 (.call n_chain_Chain_at [(.t 43), (.t 44)]),
      S 6 (.mv (.t 45))]))))))))))
 (.seq (.ops [S 46 (.mv (.t 7)),
   S 4 (.mv (.t 46)),
   S 5 (.mv (xB true))])
 (.ret)))))),
 [.tmp 4, .tmp 5], false, false, false⟩
/- slices.SortStableFunc[[]sibyl/api.Found,sibyl/api.Found] -/
def d_slices_SortStableFunc : DFn := ⟨2,
 .ops [S 4 (.mv (.t 0)),
   S 5 (.mv (.t 0)),
   S 6 (.len 0 (.t 5)),
   S 7 (.mv (.t 1)),
   S 8 (.call n_slices_stableCmpFunc [(.t 4), (.t 6), (.t 7)])],
 [], false, false, false⟩
/- (*sibyl/runs.Runs).Feed$3 -/
def d_runs_Runs_Feed_3 : DFn := ⟨2,
 .seq (.ops [S 2 (.box true 2 (.t 0)),
   S 3 (.box true 2 (.t 1)),
   S 4 (.mv (xI 0))])
 (.seq (.ops [S 5 (.fld 0 (.t 2)),
   S 6 (.ld false 1 (.t 5)),
   S 7 (.fld 0 (.t 3)),
   S 8 (.ld false 1 (.t 7)),
   S 9 (.call n_tuple_Compare [(.t 6), (.t 8)]),
   S 4 (.mv (.t 9))])
 (.ret)),
 [.tmp 4], false, false, false⟩
/- sibyl/tuple.Compare -/
def d_tuple_Compare : DFn := ⟨2,
 .seq (.ops [S 4 (.mv (xI 0))])
 (.seq (.ops [S 5 (.mv (.t 0)),
   S 6 (.mv (.t 1)),
   S 7 (.call n_slices_CompareFunc [(.t 5), (.t 6), (.v (.fn (.func 47) [] []))]),
   S 4 (.mv (.t 7))])
 (.ret)),
 [.tmp 4], false, false, false⟩
/- sibyl/sibyllaw14.feed -/
def d_sibyllaw14_feed : DFn := ⟨3,
 .seq (.ops [S 4 (.box false 1 (.t 1)),
   S 5 (.box false 1 (.t 2)),
   S 6 (.new true [(.full []), (.full []), (.full []), (eB false)])])
 (.seq (.ops [S 8 (.mkf (.func n_sibyllaw14_feed_1) [] [(.t 5), (.t 4)]),
   S 7 (.mv (.t 8))])
 (.seq (.ops [S 9 (.mv (.t 0)),
   S 10 (.ld false 1 (.t 5)),
   S 12 (.ld false 1 (.t 5)),
   S 13 (.build [(eI 0), (eI 0)] [(0, 1, (.t 12)), (1, 1, (xI 7))]),
   S 14 (.ld false 1 (.t 4)),
   S 15 (.ld false 1 (.t 5)),
   S 16 (.ixa 6 (.t 14) (.t 15)),
   S 17 (.ld true 6 (.t 16)),
   S 18 (.mv (.t 7)),
   ⟨(some 11), .call n_sibyllaw14_stamp [(.t 10)], none, [(17, .ld true 6 (.t 16), none), (15, .ld false 1 (.t 5), none), (14, .ld false 1 (.t 4), none), (12, .ld false 1 (.t 5), none)]⟩,
   S 19 (.call n_runs_Runs_Feed [(.t 9), (.t 11), (.t 13), (.t 17), (.t 18)]),
   E (.st 4 (.t 6) (.t 19))])
 (.ret))),
 [.cell 6 true 4], false, false, false⟩
/- slices.SortFunc[[]sibyl/api.Ref,sibyl/api.Ref] -/
def d_slices_SortFunc : DFn := ⟨2,
 .seq (.ops [S 5 (.mv (.t 0)),
   S 6 (.len 0 (.t 5)),
   S 4 (.mv (.t 6))])
 (.ops [S 7 (.mv (.t 0)),
   S 8 (.mv (.t 4)),
   S 9 (.mv (.t 4)),
   S 10 (.conv .u64 (.t 9)),
   S 11 (.call n_math_bits_Len [(.t 10)]),
   S 12 (.mv (.t 1)),
   S 13 (.call n_slices_pdqsortCmpFunc [(.t 7), (xI 0), (.t 8), (.t 11), (.t 12)])]),
 [], false, false, false⟩
/- (*sibyl/runs.Runs).End$1 -/
def d_runs_Runs_End_1 : DFn := ⟨2,
 .seq (.ops [S 2 (.box true 2 (.t 0)),
   S 3 (.box true 2 (.t 1)),
   S 4 (.mv (xI 0))])
 (.seq (.ops [S 5 (.fld 0 (.t 2)),
   S 6 (.ld false 1 (.t 5)),
   S 7 (.fld 0 (.t 3)),
   S 8 (.ld false 1 (.t 7)),
   S 10 (.fld 1 (.t 2)),
   S 11 (.ld false 1 (.t 10)),
   S 12 (.fld 1 (.t 3)),
   S 13 (.ld false 1 (.t 12)),
   ⟨(some 9), .call n_cmp_Compare [(.t 6), (.t 8)], none, [(13, .ld false 1 (.t 12), none), (11, .ld false 1 (.t 10), none)]⟩,
   S 14 (.call n_cmp_Compare [(.t 11), (.t 13)]),
   S 15 (.lit 1 false [[(eI 0)], [(eI 0)]] [(0, (.t 9)), (1, (.t 14))]),
   S 16 (.call n_cmp_Or [(.t 15)]),
   S 4 (.mv (.t 16))])
 (.ret)),
 [.tmp 4], false, false, false⟩
/- cmp.Or[int] -/
def d_cmp_Or : DFn := ⟨1,
 .seq (.ops [S 2 (.mv (xI 0))])
 (.seq (.ops [S 3 (.mv (xI 0))])
 (.seq (.seq (.ops [S 6 (.mv (.t 0)),
   S 7 (.len 0 (.t 6)),
   S 8 (.mv (xI 0))])
 (.block 0 (.loop [3, 6, 7, 8] (.seq (.ops [S 9 (.bin .lss .none (.t 8) (.t 7))])
   (.seq (.cond (.t 9)
    (.skip)
    (.exit 0))
   (.seq (.block 1 (.seq (.ops [S 10 (.ixa 1 (.t 6) (.t 8)),
      S 11 (.ld false 1 (.t 10)),
      S 5 (.mv (.t 11))])
    (.seq (.ops [S 12 (.mv (.t 5)),
      S 13 (.mv (.t 3)),
      S 14 (.bin .neq .none (.t 12) (.t 13))])
    (.cond (.t 14)
     (.seq (.ops [S 15 (.mv (.t 5)),
       S 2 (.mv (.t 15))])
     (.ret))
     (.skip)))))
   (.ops [S 16 (.bin .add .none (.t 8) (xI 1)),
     S 8 (.mv (.t 16))])))))))
 (.seq (.ops [S 17 (.mv (.t 3)),
   S 2 (.mv (.t 17))])
 (.ret)))),
 [.tmp 2], false, false, false⟩
/- cmp.Compare[int] -/
def d_cmp_Compare : DFn := ⟨2,
 .seq (.ops [S 4 (.mv (xI 0))])
 (.seq (.ops [S 7 (.mv (.t 0)),
   S 8 (.call n_cmp_isNaN [(.t 7)]),
   S 5 (.mv (.t 8))])
 (.seq (.ops [S 9 (.mv (.t 1)),
   S 10 (.call n_cmp_isNaN [(.t 9)]),
   S 6 (.mv (.t 10))])
 (.seq (.seq (.ops [S 11 (.mv (.t 5))])
 (.cond (.t 11)
  (.seq (.seq (.ops [S 12 (.mv (.t 6))])
  (.cond (.t 12)
   (.seq (.ops [S 4 (.mv (xI 0))])
   (.ret))
   (.skip)))
  (.seq (.ops [S 4 (.mv (xI (-1)))])
  (.ret)))
  (.skip)))
 (.seq (.seq (.ops [S 13 (.mv (.t 6))])
 (.cond (.t 13)
  (.seq (.ops [S 4 (.mv (xI 1))])
  (.ret))
  (.skip)))
 (.seq (.seq (.ops [S 14 (.mv (.t 0)),
   S 15 (.mv (.t 1)),
   S 16 (.bin .lss .none (.t 14) (.t 15))])
 (.cond (.t 16)
  (.seq (.ops [S 4 (.mv (xI (-1)))])
  (.ret))
  (.skip)))
 (.seq (.seq (.ops [S 17 (.mv (.t 0)),
   S 18 (.mv (.t 1)),
   S 19 (.bin .gtr .none (.t 17) (.t 18))])
 (.cond (.t 19)
  (.seq (.ops [S 4 (.mv (xI 1))])
  (.ret))
  (.skip)))
 (.seq (.ops [S 4 (.mv (xI 0))])
 (.ret)))))))),
 [.tmp 4], false, false, false⟩
/- sibyl/table.Right -/
def d_table_Right : DFn := ⟨1,
 .seq (.ops [S 1 (.box true 3 (.t 0)),
   S 2 (.mv (xB false))])
 (.seq (.ops [S 7 (.fld 0 (.t 1)),
   S 8 (.ld false 1 (.t 7)),
   S 9 (.len 0 (.t 8)),
   S 3 (.new false [(eI 0)]),
   E (.st 1 (.t 3) (.t 9))])
 (.seq (.seq (.ops [S 10 (.ld false 1 (.t 3)),
   S 11 (.bin .lss .none (.t 10) (xI 1)),
   S 12 (.mv (.t 11)),
   ⟨(some 13), .ld false 1 (.t 3), (some (12, false)), []⟩,
   ⟨(some 14), .bin .gtr .none (.t 13) (xI 6), (some (12, false)), []⟩,
   S 15 (.pick (.t 12) (xB true) (.t 14)),
   S 16 (.mv (.t 15)),
   ⟨(some 17), .fld 1 (.t 1), (some (16, false)), []⟩,
   ⟨(some 18), .ld false 1 (.t 17), (some (16, false)), []⟩,
   ⟨(some 19), .bin .lss .none (.t 18) (xI 1), (some (16, false)), []⟩,
   S 20 (.pick (.t 16) (xB true) (.t 19)),
   S 21 (.mv (.t 20)),
   ⟨(some 22), .fld 1 (.t 1), (some (21, false)), []⟩,
   ⟨(some 23), .ld false 1 (.t 22), (some (21, false)), []⟩,
   ⟨(some 24), .bin .gtr .none (.t 23) (xI 8), (some (21, false)), []⟩,
   S 25 (.pick (.t 21) (xB true) (.t 24)),
   S 26 (.mv (.t 25)),
   ⟨(some 27), .fld 0 (.t 1), (some (26, false)), []⟩,
   ⟨(some 28), .ld false 1 (.t 27), (some (26, false)), []⟩,
   ⟨(some 29), .ld false 1 (.t 3), (some (26, false)), []⟩,
   ⟨(some 30), .bin .sub .none (.t 29) (xI 1), (some (26, false)), []⟩,
   ⟨(some 31), .ixa 4 (.t 28) (.t 30), (some (26, false)), []⟩,
   ⟨(some 32), .fld 3 (.t 31), (some (26, false)), []⟩,
   ⟨(some 33), .ld false 1 (.t 32), (some (26, false)), []⟩,
   ⟨(some 34), .len 0 (.t 33), (some (26, false)), []⟩,
   ⟨(some 35), .bin .gtr .none (.t 34) (xI 0), (some (26, false)), []⟩,
   S 36 (.pick (.t 26) (xB true) (.t 35))])
 (.cond (.t 36)
  (.seq (.ops [S 2 (.mv (xB false))])
  (.ret))
  (.skip)))
 (.seq (.seq (.ops [S 37 (.fld 0 (.t 1)),
   S 38 (.ld false 1 (.t 37)),
   S 39 (.len 0 (.t 38)),
   S 40 (.mv (xI 0))])
 (.block 0 (.loop [3, 38, 39, 40] (.seq (.ops [S 41 (.bin .lss .none (.t 40) (.t 39))])
   (.seq (.cond (.t 41)
    (.skip)
    (.exit 0))
   (.seq (.block 1 (.seq (.ops [S 42 (.mv (.t 40)),
      S 43 (.ixa 4 (.t 38) (.t 40)),
      S 44 (.ld true 4 (.t 43)),
      S 4 (.new false [(eI 0)]),
      S 5 (.new true [(eI 0), (eB false), (.full []), (.full [])]),
      E (.st 1 (.t 4) (.t 42)),
      E (.st 4 (.t 5) (.t 44))])
    (.seq (.ops [S 45 (.mkf (.func n_table_Right_1) [] [(.t 4), (.t 3)]),
      S 6 (.mv (.t 45))])
    (.seq (.ops [S 46 (.fld 0 (.t 5)),
      S 47 (.ld false 1 (.t 46)),
      S 48 (.call n_table_typed [(.t 47)]),
      S 49 (.un .not (.t 48)),
      S 50 (.mv (.t 49)),
      ⟨(some 51), .fld 2 (.t 5), (some (50, false)), []⟩,
      ⟨(some 52), .ld false 1 (.t 51), (some (50, false)), []⟩,
      ⟨(some 53), .ld false 1 (.t 4), (some (50, false)), []⟩,
      ⟨(some 54), .ld false 1 (.t 4), (some (50, false)), []⟩,
      ⟨(some 55), .call n_table_may [(.t 52), (.t 53), (.t 54)], (some (50, false)), []⟩,
      ⟨(some 56), .un .not (.t 55), (some (50, false)), []⟩,
      S 57 (.pick (.t 50) (xB true) (.t 56)),
      S 58 (.mv (.t 57)),
      ⟨(some 59), .fld 3 (.t 5), (some (58, false)), []⟩,
      ⟨(some 60), .ld false 1 (.t 59), (some (58, false)), []⟩,
      ⟨(some 61), .mv (.t 6), (some (58, false)), []⟩,
      ⟨(some 62), .call n_slices_ContainsFunc [(.t 60), (.t 61)], (some (58, false)), []⟩,
      S 63 (.pick (.t 58) (xB true) (.t 62))])
    (.cond (.t 63)
     (.seq (.ops [S 2 (.mv (xB false))])
     (.ret))
     (.skip))))))
   (.ops [S 64 (.bin .add .none (.t 40) (xI 1)),
     S 40 (.mv (.t 64))])))))))
 (.seq (.ops [S 2 (.mv (xB true))])
 (.ret))))),
 [.tmp 2], false, true, false⟩
/- sibyl/chain.New -/
def d_chain_New : DFn := ⟨0,
 .seq (.ops [S 0 (.mv (.v .nilp))])
 (.seq (.ops [S 1 (.mkmap),
   S 2 (.build [.nilmap, (eI 0)] [(0, 1, (.t 1))]),
   S 3 (.box true 2 (.t 2)),
   S 0 (.mv (.t 3))])
 (.ret)),
 [.tmp 0], false, false, false⟩
/- (*sibyl/runs.Runs).grow$1 -/
def d_runs_Runs_grow_1 : DFn := ⟨4,
 .seq (.ops [S 5 (.new true [(eI 0), (eI 0), (eI 0), (eI 0), (eI 0), (eI 0)])])
 (.seq (.ops [S 9 (.ld false 1 (.t 1)),
   S 10 (.ld false 1 (.t 2)),
   S 11 (.nz (.t 10)),
   S 12 (.fld 1 (.t 11)),
   S 13 (.ld false 1 (.t 12)),
   S 14 (.mv (.t 0)),
   S 15 (.ld false 1 (.t 2)),
   S 16 (.nz (.t 15)),
   S 17 (.fld 0 (.t 16)),
   S 18 (.ld false 1 (.t 17)),
   S 19 (.ld false 1 (.t 2)),
   S 20 (.nz (.t 19)),
   S 21 (.fld 1 (.t 20)),
   S 22 (.ld false 1 (.t 21)),
   S 23 (.len 0 (.t 22)),
   S 24 (.bin .sub .none (.t 18) (.t 23)),
   S 25 (.bin .sub .none (.t 14) (.t 24)),
   S 26 (.ixa 3 (.t 13) (.t 25)),
   S 27 (.fld 1 (.t 26)),
   S 28 (.ld true 2 (.t 27)),
   S 6 (.new true [(eI 0), (eI 0), (eI 0), (eI 0), (eI 0), (eI 0)]),
   S 29 (.callv (.t 9) [(.t 28)]),
   S 8 (.mv (.t 29)),
   S 30 (.ext (.t 8) 0),
   S 31 (.ext (.t 8) 1),
   E (.st 6 (.t 6) (.t 30)),
   S 7 (.mv (.t 31))])
 (.seq (.seq (.ops [S 32 (.mv (.t 7)),
   S 33 (.un .not (.t 32))])
 (.cond (.t 33)
  (.seq (.ops [S 34 (.ld false 1 (.t 3)),
    S 35 (.nz (.t 34)),
    S 36 (.fld 7 (.t 35)),
    S 37 (.ld false 1 (.t 36)),
    S 38 (.bin .add .none (.t 37) (xI 1)),
    S 39 (.nz (.t 34)),
    S 40 (.fld 7 (.t 39)),
    E (.st 1 (.t 40) (.t 38))])
  (.seq (.ops [S 41 (.build [(eI 0), (eI 0), (eI 0), (eI 0), (eI 0), (eI 0)] []),
    E (.st 6 (.t 5) (.t 41))])
  (.ret)))
  (.skip)))
 (.seq (.ops [S 42 (.ld true 6 (.t 6)),
   E (.st 6 (.t 5) (.t 42))])
 (.ret)))),
 [.cell 5 true 6], false, false, false⟩
/- sibyl/tuple.Flat -/
def d_tuple_Flat : DFn := ⟨1,
 .seq (.ops [S 2 (.nils 1 false)])
 (.seq (.ops [S 3 (.mv (.t 0)),
   S 4 (.call n_slices_Concat [(.t 3)]),
   S 2 (.mv (.t 4))])
 (.ret)),
 [.tmp 2], false, false, false⟩
/- sibyl/runs.shifted -/
def d_runs_shifted : DFn := ⟨2,
 .seq (.ops [S 3 (.box false 1 (.t 1)),
   S 4 (.nils 1 false)])
 (.seq (.ops [S 5 (.mv (.t 0)),
   S 6 (.mkf (.func n_runs_shifted_1) [] [(.t 3)]),
   S 7 (.call n_runs_mapped_38 [(.t 5), (.t 6)]),
   S 4 (.mv (.t 7))])
 (.ret)),
 [.tmp 4], false, false, false⟩
/- sibyl/step.Step -/
def d_step_Step : DFn := ⟨3,
 .seq (.ops [S 3 (.box true 3 (.t 0)),
   S 5 (.box true 3 (.t 2)),
   S 6 (.nils 3 true)])
 (.seq (.ops [S 16 (.mv (.t 1)),
   S 17 (.len 0 (.t 16)),
   S 18 (.bin .sub .none (.t 17) (xI 1)),
   S 7 (.mv (.t 18))])
 (.seq (.seq (.ops [S 19 (.mv (.t 7)),
   S 20 (.bin .lss .none (.t 19) (xI 0)),
   S 21 (.mv (.t 20)),
   ⟨(some 22), .ld true 3 (.t 3), (some (21, false)), []⟩,
   ⟨(some 23), .ld true 3 (.t 5), (some (21, false)), []⟩,
   ⟨(some 24), .mv (.t 7), (some (21, false)), []⟩,
   ⟨(some 25), .call n_step_Fits [(.t 22), (.t 23), (.t 24)], (some (21, false)), []⟩,
   ⟨(some 26), .un .not (.t 25), (some (21, false)), []⟩,
   S 27 (.pick (.t 21) (xB true) (.t 26)),
   S 28 (.mv (.t 27)),
   ⟨(some 29), .mv (.t 7), (some (28, false)), []⟩,
   ⟨(some 30), .fld 1 (.t 5), (some (28, false)), []⟩,
   ⟨(some 31), .ld false 1 (.t 30), (some (28, false)), []⟩,
   ⟨(some 32), .ixa 1 (.t 31) (xI 0), (some (28, false)), []⟩,
   ⟨(some 33), .ld false 1 (.t 32), (some (28, false)), []⟩,
   ⟨(some 34), .ixa 1 (.t 33) (xI 0), (some (28, false)), []⟩,
   ⟨(some 35), .ld false 1 (.t 34), (some (28, false)), []⟩,
   ⟨(some 36), .bin .sub .none (.t 29) (.t 35), (some (28, false)), []⟩,
   ⟨(some 37), .fld 1 (.t 3), (some (28, false)), []⟩,
   ⟨(some 38), .ld false 1 (.t 37), (some (28, false)), []⟩,
   ⟨(some 39), .bin .geq .none (.t 36) (.t 38), (some (28, false)), []⟩,
   S 40 (.pick (.t 28) (xB true) (.t 39))])
 (.cond (.t 40)
  (.seq (.ops [S 6 (.nils 3 true)])
  (.ret))
  (.skip)))
 (.seq (.ops [S 41 (.fld 0 (.t 3)),
   S 42 (.ld false 1 (.t 41)),
   S 43 (.fld 0 (.t 5)),
   S 44 (.ld false 1 (.t 43)),
   S 45 (.ixa 4 (.t 42) (.t 44)),
   S 46 (.fld 1 (.t 45)),
   S 47 (.ld false 1 (.t 46)),
   S 48 (.fld 0 (.t 5)),
   S 49 (.ld false 1 (.t 48)),
   S 50 (.fld 0 (.t 3)),
   S 51 (.ld false 1 (.t 50)),
   S 52 (.len 0 (.t 51)),
   S 53 (.bin .sub .none (.t 52) (xI 1)),
   S 54 (.bin .eql .none (.t 49) (.t 53)),
   S 8 (.mv (.t 47)),
   S 9 (.mv (.t 54))])
 (.seq (.ops [S 55 (.mkf (.func n_step_Step_1) [] [(.t 5)]),
   S 10 (.mv (.t 55))])
 (.seq (.ops [S 11 (.nils 3 true)])
 (.seq (.ops [S 56 (.ld true 3 (.t 3)),
   S 57 (.mv (.t 1)),
   S 58 (.ld true 3 (.t 5)),
   S 59 (.call n_step_barred [(.t 56), (.t 57), (.t 58)]),
   S 12 (.mv (.t 59))])
 (.seq (.seq (.ops [S 60 (.mv (.t 8)),
   S 61 (.mv (.t 60)),
   ⟨(some 62), .mv (.t 9), (some (61, false)), []⟩,
   ⟨(some 63), .un .not (.t 62), (some (61, false)), []⟩,
   ⟨(some 64), .mv (.t 63), (some (61, false)), []⟩,
   ⟨(some 65), .mv (.t 12), (some (64, true)), []⟩,
   ⟨(some 66), .un .not (.t 65), (some (64, true)), []⟩,
   ⟨(some 67), .pick (.t 64) (.t 66) (xB false), (some (61, false)), []⟩,
   S 68 (.pick (.t 61) (xB true) (.t 67))])
 (.cond (.t 68)
  (.seq (.ops [S 69 (.mv (.t 10)),
    S 70 (.fld 0 (.t 5)),
    S 71 (.ld false 1 (.t 70)),
    S 72 (.callv (.t 69) [(.t 71)]),
    S 13 (.new true [(eI 0), (.full []), (eB false)]),
    E (.st 3 (.t 13) (.t 72))])
  (.seq (.ops [S 73 (.fld 2 (.t 5)),
    S 74 (.ld false 1 (.t 73)),
    S 75 (.mv (.t 74)),
    ⟨(some 76), .mv (.t 12), (some (75, false)), []⟩,
    S 77 (.pick (.t 75) (xB true) (.t 76)),
    S 78 (.fld 2 (.t 13)),
    E (.st 1 (.t 78) (.t 77))])
  (.ops [S 79 (.mv (.t 11)),
    S 80 (.ld true 3 (.t 13)),
    S 81 (.lit 3 true [[(eI 0), (.full []), (eB false)]] [(0, (.t 80))]),
    S 82 (.app 3 true 40 (.t 79) (.t 81)),
    S 11 (.mv (.t 82))])))
  (.skip)))
 (.seq (.seq (.ops [S 83 (.mv (.t 8)),
   S 84 (.mv (.t 83)),
   ⟨(some 85), .ld true 3 (.t 3), (some (84, true)), []⟩,
   ⟨(some 86), .mv (.t 1), (some (84, true)), []⟩,
   ⟨(some 87), .ld true 3 (.t 5), (some (84, true)), []⟩,
   ⟨(some 88), .fld 0 (.t 5), (some (84, true)), []⟩,
   ⟨(some 89), .ld false 1 (.t 88), (some (84, true)), []⟩,
   ⟨(some 90), .call n_step_takes [(.t 85), (.t 86), (.t 87), (.t 89)], (some (84, true)), []⟩,
   S 91 (.pick (.t 84) (.t 90) (xB false))])
 (.cond (.t 91)
  (.seq (.ops [S 92 (.mv (.t 10)),
    S 93 (.fld 0 (.t 5)),
    S 94 (.ld false 1 (.t 93)),
    S 95 (.callv (.t 92) [(.t 94)]),
    S 14 (.new true [(eI 0), (.full []), (eB false)]),
    E (.st 3 (.t 14) (.t 95))])
  (.seq (.ops [S 96 (.fld 1 (.t 14)),
    S 97 (.ld false 1 (.t 96)),
    S 98 (.fld 0 (.t 5)),
    S 99 (.ld false 1 (.t 98)),
    S 100 (.mv (.t 7)),
    S 101 (.call n_step_with [(.t 97), (.t 99), (.t 100)]),
    S 102 (.fld 1 (.t 14)),
    E (.st 1 (.t 102) (.t 101))])
  (.ops [S 103 (.mv (.t 11)),
    S 104 (.ld true 3 (.t 14)),
    S 105 (.lit 3 true [[(eI 0), (.full []), (eB false)]] [(0, (.t 104))]),
    S 106 (.app 3 true 40 (.t 103) (.t 105)),
    S 11 (.mv (.t 106))])))
  (.skip)))
 (.seq (.seq (.ops [S 107 (.mv (.t 9)),
   S 108 (.un .not (.t 107)),
   S 109 (.mv (.t 108)),
   ⟨(some 110), .fld 2 (.t 5), (some (109, true)), []⟩,
   ⟨(some 111), .ld false 1 (.t 110), (some (109, true)), []⟩,
   ⟨(some 112), .un .not (.t 111), (some (109, true)), []⟩,
   S 113 (.pick (.t 109) (.t 112) (xB false)),
   S 114 (.mv (.t 113)),
   ⟨(some 115), .ld true 3 (.t 3), (some (114, true)), []⟩,
   ⟨(some 116), .mv (.t 1), (some (114, true)), []⟩,
   ⟨(some 117), .ld true 3 (.t 5), (some (114, true)), []⟩,
   ⟨(some 118), .fld 0 (.t 5), (some (114, true)), []⟩,
   ⟨(some 119), .ld false 1 (.t 118), (some (114, true)), []⟩,
   ⟨(some 120), .bin .add .none (.t 119) (xI 1), (some (114, true)), []⟩,
   ⟨(some 121), .call n_step_takes [(.t 115), (.t 116), (.t 117), (.t 120)], (some (114, true)), []⟩,
   S 122 (.pick (.t 114) (.t 121) (xB false))])
 (.cond (.t 122)
  (.seq (.ops [S 123 (.mv (.t 10)),
    S 124 (.fld 0 (.t 5)),
    S 125 (.ld false 1 (.t 124)),
    S 126 (.bin .add .none (.t 125) (xI 1)),
    S 127 (.callv (.t 123) [(.t 126)]),
    S 15 (.new true [(eI 0), (.full []), (eB false)]),
    E (.st 3 (.t 15) (.t 127))])
  (.seq (.ops [S 128 (.fld 1 (.t 15)),
    S 129 (.ld false 1 (.t 128)),
    S 130 (.fld 0 (.t 5)),
    S 131 (.ld false 1 (.t 130)),
    S 132 (.bin .add .none (.t 131) (xI 1)),
    S 133 (.mv (.t 7)),
    S 134 (.call n_step_with [(.t 129), (.t 132), (.t 133)]),
    S 135 (.fld 1 (.t 15)),
    E (.st 1 (.t 135) (.t 134))])
  (.ops [S 136 (.mv (.t 11)),
    S 137 (.ld true 3 (.t 15)),
    S 138 (.lit 3 true [[(eI 0), (.full []), (eB false)]] [(0, (.t 137))]),
    S 139 (.app 3 true 40 (.t 136) (.t 138)),
    S 11 (.mv (.t 139))])))
  (.skip)))
 (.seq (.ops [S 140 (.mv (.t 11)),
   S 6 (.mv (.t 140))])
 (.ret))))))))))),
 [.tmp 6], false, false, false⟩
/- sibyl/step.Start -/
def d_step_Start : DFn := ⟨2,
 .seq (.ops [S 2 (.box true 3 (.t 0)),
   S 4 (.new true [(eI 0), (.full []), (eB false)]),
   S 5 (.mv (xB false))])
 (.seq (.seq (.ops [S 6 (.ld true 3 (.t 2)),
   S 7 (.call n_table_Right [(.t 6)]),
   S 8 (.un .not (.t 7)),
   S 9 (.mv (.t 8)),
   ⟨(some 10), .mv (.t 1), (some (9, false)), []⟩,
   ⟨(some 11), .len 0 (.t 10), (some (9, false)), []⟩,
   ⟨(some 12), .bin .eql .none (.t 11) (xI 0), (some (9, false)), []⟩,
   S 13 (.pick (.t 9) (xB true) (.t 12)),
   S 14 (.mv (.t 13)),
   ⟨(some 15), .ld true 3 (.t 2), (some (14, false)), []⟩,
   ⟨(some 16), .mv (.t 1), (some (14, false)), []⟩,
   ⟨(some 17), .build [(eI 0), (.full []), (eB false)] [], (some (14, false)), []⟩,
   ⟨(some 18), .call n_step_takes [(.t 15), (.t 16), (.t 17), (xI 0)], (some (14, false)), []⟩,
   ⟨(some 19), .un .not (.t 18), (some (14, false)), []⟩,
   S 20 (.pick (.t 14) (xB true) (.t 19))])
 (.cond (.t 20)
  (.seq (.ops [S 21 (.build [(eI 0), (.full []), (eB false)] []),
    E (.st 3 (.t 4) (.t 21)),
    S 5 (.mv (xB false))])
  (.ret))
  (.skip)))
 (.seq (.ops [S 22 (.mv (.t 1)),
   S 23 (.len 0 (.t 22)),
   S 24 (.bin .sub .none (.t 23) (xI 1)),
   S 25 (.lit 1 false [[(eI 0)]] [(0, (.t 24))]),
   S 26 (.lit 1 false [[(.full [])]] [(0, (.t 25))]),
   S 27 (.build [(eI 0), (.full []), (eB false)] [(1, 1, (.t 26))]),
   E (.st 3 (.t 4) (.t 27)),
   S 5 (.mv (xB true))])
 (.ret))),
 [.cell 4 true 3, .tmp 5], false, false, false⟩
/- (*sibyl/runs.Runs).found$1 -/
def d_runs_Runs_found_1 : DFn := ⟨2,
 .seq (.ops [S 3 (.new true [(eI 0), (eI 0), (eI 0)])])
 (.seq (.ops [S 4 (.ld false 1 (.t 1)),
   S 5 (.nz (.t 4)),
   S 6 (.fld 1 (.t 5)),
   S 7 (.ld false 1 (.t 6)),
   S 8 (.mv (.t 0)),
   S 9 (.ld false 1 (.t 1)),
   S 10 (.nz (.t 9)),
   S 11 (.fld 0 (.t 10)),
   S 12 (.ld false 1 (.t 11)),
   S 13 (.ld false 1 (.t 1)),
   S 14 (.nz (.t 13)),
   S 15 (.fld 1 (.t 14)),
   S 16 (.ld false 1 (.t 15)),
   S 17 (.len 0 (.t 16)),
   S 18 (.bin .sub .none (.t 12) (.t 17)),
   S 19 (.bin .sub .none (.t 8) (.t 18)),
   S 20 (.ixa 3 (.t 7) (.t 19)),
   S 21 (.ld true 3 (.t 20)),
   E (.st 3 (.t 3) (.t 21))])
 (.ret)),
 [.cell 3 true 3], false, false, false⟩
/- sibyl/runs.mapped[[]int,[]int] -/
def d_runs_mapped_38 : DFn := ⟨2,
 .seq (.ops [S 4 (.nils 1 false)])
 (.seq (.ops [S 8 (.mv (.t 0)),
   S 9 (.len 0 (.t 8)),
   S 10 (.mks 1 false 24 [(.full [])] (.t 9) (.t 9)),
   S 5 (.mv (.t 10))])
 (.seq (.seq (.ops [S 11 (.mv (.t 0)),
   S 12 (.len 0 (.t 11)),
   S 13 (.mv (xI 0))])
 (.block 0 (.loop [1, 5, 11, 12, 13] (.seq (.ops [S 14 (.bin .lss .none (.t 13) (.t 12))])
   (.seq (.cond (.t 14)
    (.skip)
    (.exit 0))
   (.seq (.block 1 (.seq (.ops [S 15 (.mv (.t 13)),
      S 16 (.ixa 1 (.t 11) (.t 13)),
      S 17 (.ld false 1 (.t 16)),
      S 6 (.mv (.t 15)),
      S 7 (.mv (.t 17))])
    (.ops [S 18 (.mv (.t 5)),
      S 19 (.mv (.t 6)),
      S 20 (.mv (.t 1)),
      S 21 (.mv (.t 7)),
      S 22 (.callv (.t 20) [(.t 21)]),
      S 23 (.ixa 1 (.t 18) (.t 19)),
      E (.st 1 (.t 23) (.t 22))])))
   (.ops [S 24 (.bin .add .none (.t 13) (xI 1)),
     S 13 (.mv (.t 24))])))))))
 (.seq (.ops [S 25 (.mv (.t 5)),
   S 4 (.mv (.t 25))])
 (.ret)))),
 [.tmp 4], false, false, false⟩
/- (*sibyl/runs.Runs).found$2 -/
def d_runs_Runs_found_2 : DFn := ⟨2,
 .seq (.ops [S 3 (.nils 1 false)])
 (.seq (.ops [S 4 (.mv (.t 0)),
   S 5 (.mkf (.func n_runs_Runs_found_2_1) [] [(.t 1)]),
   S 6 (.call n_runs_mapped_40 [(.t 4), (.t 5)]),
   S 3 (.mv (.t 6))])
 (.ret)),
 [.tmp 3], false, false, false⟩
/- sibyl/runs.mapped[int,int] -/
def d_runs_mapped_40 : DFn := ⟨2,
 .seq (.ops [S 4 (.nils 1 false)])
 (.seq (.ops [S 8 (.mv (.t 0)),
   S 9 (.len 0 (.t 8)),
   S 10 (.mks 1 false 8 [(eI 0)] (.t 9) (.t 9)),
   S 5 (.mv (.t 10))])
 (.seq (.seq (.ops [S 11 (.mv (.t 0)),
   S 12 (.len 0 (.t 11)),
   S 13 (.mv (xI 0))])
 (.block 0 (.loop [1, 5, 11, 12, 13] (.seq (.ops [S 14 (.bin .lss .none (.t 13) (.t 12))])
   (.seq (.cond (.t 14)
    (.skip)
    (.exit 0))
   (.seq (.block 1 (.seq (.ops [S 15 (.mv (.t 13)),
      S 16 (.ixa 1 (.t 11) (.t 13)),
      S 17 (.ld false 1 (.t 16)),
      S 6 (.mv (.t 15)),
      S 7 (.mv (.t 17))])
    (.ops [S 18 (.mv (.t 5)),
      S 19 (.mv (.t 6)),
      S 20 (.mv (.t 1)),
      S 21 (.mv (.t 7)),
      S 22 (.callv (.t 20) [(.t 21)]),
      S 23 (.ixa 1 (.t 18) (.t 19)),
      E (.st 1 (.t 23) (.t 22))])))
   (.ops [S 24 (.bin .add .none (.t 13) (xI 1)),
     S 13 (.mv (.t 24))])))))))
 (.seq (.ops [S 25 (.mv (.t 5)),
   S 4 (.mv (.t 25))])
 (.ret)))),
 [.tmp 4], false, false, false⟩
/- (*sibyl/runs.Runs).found$2$1 -/
def d_runs_Runs_found_2_1 : DFn := ⟨2,
 .seq (.ops [S 3 (.mv (xI 0))])
 (.seq (.ops [S 4 (.ld false 1 (.t 1)),
   S 5 (.mv (.t 0)),
   S 6 (.callv (.t 4) [(.t 5)]),
   S 7 (.fget 0 1 false (.t 6)),
   S 3 (.mv (.t 7))])
 (.ret)),
 [.tmp 3], false, false, false⟩
/- sibyl/runs.mapped[int,sibyl/api.Ref] -/
def d_runs_mapped_42 : DFn := ⟨2,
 .seq (.ops [S 4 (.nils 2 true)])
 (.seq (.ops [S 8 (.mv (.t 0)),
   S 9 (.len 0 (.t 8)),
   S 10 (.mks 2 true 16 [(eI 0), (eI 0)] (.t 9) (.t 9)),
   S 5 (.mv (.t 10))])
 (.seq (.seq (.ops [S 11 (.mv (.t 0)),
   S 12 (.len 0 (.t 11)),
   S 13 (.mv (xI 0))])
 (.block 0 (.loop [1, 5, 11, 12, 13] (.seq (.ops [S 14 (.bin .lss .none (.t 13) (.t 12))])
   (.seq (.cond (.t 14)
    (.skip)
    (.exit 0))
   (.seq (.block 1 (.seq (.ops [S 15 (.mv (.t 13)),
      S 16 (.ixa 1 (.t 11) (.t 13)),
      S 17 (.ld false 1 (.t 16)),
      S 6 (.mv (.t 15)),
      S 7 (.mv (.t 17))])
    (.ops [S 18 (.mv (.t 5)),
      S 19 (.mv (.t 6)),
      S 20 (.mv (.t 1)),
      S 21 (.mv (.t 7)),
      S 22 (.callv (.t 20) [(.t 21)]),
      S 23 (.ixa 2 (.t 18) (.t 19)),
      E (.st 2 (.t 23) (.t 22))])))
   (.ops [S 24 (.bin .add .none (.t 13) (xI 1)),
     S 13 (.mv (.t 24))])))))))
 (.seq (.ops [S 25 (.mv (.t 5)),
   S 4 (.mv (.t 25))])
 (.ret)))),
 [.tmp 4], false, false, false⟩
/- (*sibyl/runs.Runs).found$3 -/
def d_runs_Runs_found_3 : DFn := ⟨2,
 .seq (.ops [S 3 (.new true [(eI 0), (eI 0)])])
 (.seq (.ops [S 4 (.ld false 1 (.t 1)),
   S 5 (.mv (.t 0)),
   S 6 (.callv (.t 4) [(.t 5)]),
   S 7 (.fget 1 2 true (.t 6)),
   E (.st 2 (.t 3) (.t 7))])
 (.ret)),
 [.cell 3 true 2], false, false, false⟩
/- (*sibyl/chain.Chain).at -/
def d_chain_Chain_at : DFn := ⟨2,
 .seq (.ops [S 4 (.mv (.v .nilp))])
 (.seq (.seq (.ops [S 5 (.mv (.t 0)),
   S 6 (.bin .eql .ptr (.t 5) (.v .nilp))])
 (.cond (.t 6)
  (.seq (.ops [S 4 (.mv (.v .nilp))])
  (.ret))
  (.skip)))
 (.seq (.ops [S 7 (.mv (.t 0)),
   S 8 (.nz (.t 7)),
   S 9 (.fld 0 (.t 8)),
   S 10 (.ld false 1 (.t 9)),
   S 11 (.mv (.t 1)),
   S 12 (.look .int .nilp false (.t 10) (.t 11)),
   S 4 (.mv (.t 12))])
 (.ret))),
 [.tmp 4], false, false, false⟩
/- slices.stableCmpFunc[sibyl/api.Found] -/
def d_slices_stableCmpFunc : DFn := ⟨3,
 .seq (.ops [S 6 (.mv (xI 20))])
 (.seq (.ops [S 10 (.mv (.t 6)),
   S 7 (.mv (xI 0)),
   S 8 (.mv (.t 10))])
 (.seq (.block 0 (.loop [0, 1, 2, 6, 7, 8] (.seq (.seq (.ops [S 11 (.mv (.t 8)),
     S 12 (.mv (.t 1)),
     S 13 (.bin .leq .none (.t 11) (.t 12))])
   (.cond (.t 13)
    (.skip)
    (.exit 0)))
   (.block 1 (.seq (.ops [S 14 (.mv (.t 0)),
      S 15 (.mv (.t 7)),
      S 16 (.mv (.t 8)),
      S 17 (.mv (.t 2)),
      S 18 (.call n_slices_insertionSortCmpFunc [(.t 14), (.t 15), (.t 16), (.t 17)])])
    (.seq (.ops [S 19 (.mv (.t 8)),
      S 7 (.mv (.t 19))])
    (.ops [S 20 (.mv (.t 8)),
      S 21 (.mv (.t 6)),
      S 22 (.bin .add .none (.t 20) (.t 21)),
      S 8 (.mv (.t 22))])))))))
 (.seq (.ops [S 23 (.mv (.t 0)),
   S 24 (.mv (.t 7)),
   S 25 (.mv (.t 1)),
   S 26 (.mv (.t 2)),
   S 27 (.call n_slices_insertionSortCmpFunc [(.t 23), (.t 24), (.t 25), (.t 26)])])
 (.block 2 (.loop [0, 1, 2, 6] (.seq (.seq (.ops [S 28 (.mv (.t 6)),
     S 29 (.mv (.t 1)),
     S 30 (.bin .lss .none (.t 28) (.t 29))])
   (.cond (.t 30)
    (.skip)
    (.exit 2)))
   (.block 3 (.seq (.ops [S 31 (.mv (.t 6)),
      S 32 (.bin .mul .none (xI 2) (.t 31)),
      S 7 (.mv (xI 0)),
      S 8 (.mv (.t 32))])
    (.seq (.block 4 (.loop [0, 1, 2, 6, 7, 8] (.seq (.seq (.ops [S 33 (.mv (.t 8)),
        S 34 (.mv (.t 1)),
        S 35 (.bin .leq .none (.t 33) (.t 34))])
      (.cond (.t 35)
       (.skip)
       (.exit 4)))
      (.block 5 (.seq (.ops [S 36 (.mv (.t 0)),
         S 37 (.mv (.t 7)),
         S 38 (.mv (.t 7)),
         S 39 (.mv (.t 6)),
         S 40 (.bin .add .none (.t 38) (.t 39)),
         S 41 (.mv (.t 8)),
         S 42 (.mv (.t 2)),
         S 43 (.call n_slices_symMergeCmpFunc [(.t 36), (.t 37), (.t 40), (.t 41), (.t 42)])])
       (.seq (.ops [S 44 (.mv (.t 8)),
         S 7 (.mv (.t 44))])
       (.ops [S 45 (.mv (.t 8)),
         S 46 (.mv (.t 6)),
         S 47 (.bin .mul .none (xI 2) (.t 46)),
         S 48 (.bin .add .none (.t 45) (.t 47)),
         S 8 (.mv (.t 48))])))))))
    (.seq (.seq (.ops [S 49 (.mv (.t 7)),
      S 50 (.mv (.t 6)),
      S 51 (.bin .add .none (.t 49) (.t 50)),
      S 9 (.mv (.t 51))])
    (.seq (.ops [S 52 (.mv (.t 9)),
      S 53 (.mv (.t 1)),
      S 54 (.bin .lss .none (.t 52) (.t 53))])
    (.cond (.t 54)
     (.ops [S 55 (.mv (.t 0)),
       S 56 (.mv (.t 7)),
       S 57 (.mv (.t 9)),
       S 58 (.mv (.t 1)),
       S 59 (.mv (.t 2)),
       S 60 (.call n_slices_symMergeCmpFunc [(.t 55), (.t 56), (.t 57), (.t 58), (.t 59)])])
     (.skip))))
    (.ops [S 61 (.mv (.t 6)),
      S 62 (.bin .mul .none (.t 61) (xI 2)),
      S 6 (.mv (.t 62))]))))))))))),
 [], false, false, false⟩
/- slices.CompareFunc[[][]int,[][]int,[]int,[]int] -/
def d_slices_CompareFunc : DFn := ⟨3,
 .seq (.ops [S 6 (.mv (xI 0))])
 (.seq (.seq (.ops [S 11 (.mv (.t 0)),
   S 12 (.len 0 (.t 11)),
   S 13 (.mv (xI 0))])
 (.block 0 (.loop [0, 1, 2, 11, 12, 13] (.seq (.ops [S 14 (.bin .lss .none (.t 13) (.t 12))])
   (.seq (.cond (.t 14)
    (.skip)
    (.exit 0))
   (.seq (.block 1 (.seq (.ops [S 15 (.mv (.t 13)),
      S 16 (.ixa 1 (.t 11) (.t 13)),
      S 17 (.ld false 1 (.t 16)),
      S 7 (.mv (.t 15)),
      S 8 (.mv (.t 17))])
    (.seq (.seq (.ops [S 18 (.mv (.t 7)),
      S 19 (.mv (.t 1)),
      S 20 (.len 0 (.t 19)),
      S 21 (.bin .geq .none (.t 18) (.t 20))])
    (.cond (.t 21)
     (.seq (.ops [S 6 (.mv (xI 1))])
     (.ret))
     (.skip)))
    (.seq (.ops [S 22 (.mv (.t 1)),
      S 23 (.mv (.t 7)),
      S 24 (.ixa 1 (.t 22) (.t 23)),
      S 25 (.ld false 1 (.t 24)),
      S 9 (.mv (.t 25))])
    (.seq (.ops [S 26 (.mv (.t 2)),
      S 27 (.mv (.t 8)),
      S 28 (.mv (.t 9)),
      S 29 (.callv (.t 26) [(.t 27), (.t 28)]),
      S 10 (.mv (.t 29))])
    (.seq (.ops [S 30 (.mv (.t 10)),
      S 31 (.bin .neq .none (.t 30) (xI 0))])
    (.cond (.t 31)
     (.seq (.ops [S 32 (.mv (.t 10)),
       S 6 (.mv (.t 32))])
     (.ret))
     (.skip))))))))
   (.ops [S 33 (.bin .add .none (.t 13) (xI 1)),
     S 13 (.mv (.t 33))])))))))
 (.seq (.seq (.ops [S 34 (.mv (.t 0)),
   S 35 (.len 0 (.t 34)),
   S 36 (.mv (.t 1)),
   S 37 (.len 0 (.t 36)),
   S 38 (.bin .lss .none (.t 35) (.t 37))])
 (.cond (.t 38)
  (.seq (.ops [S 6 (.mv (xI (-1)))])
  (.ret))
  (.skip)))
 (.seq (.ops [S 6 (.mv (xI 0))])
 (.ret)))),
 [.tmp 6], false, false, false⟩
/- sibyl/tuple.Compare$1 -/
def d_tuple_Compare_1 : DFn := ⟨2,
 .seq (.ops [S 4 (.mv (xI 0))])
 (.seq (.ops [S 5 (.mv (.t 0)),
   S 6 (.mv (.t 1)),
   S 7 (.call n_slices_Compare [(.t 5), (.t 6)]),
   S 4 (.mv (.t 7))])
 (.ret)),
 [.tmp 4], false, false, false⟩
/- slices.Compare[[]int,int] -/
def d_slices_Compare : DFn := ⟨2,
 .seq (.ops [S 4 (.mv (xI 0))])
 (.seq (.seq (.ops [S 9 (.mv (.t 0)),
   S 10 (.len 0 (.t 9)),
   S 11 (.mv (xI 0))])
 (.block 0 (.loop [0, 1, 9, 10, 11] (.seq (.ops [S 12 (.bin .lss .none (.t 11) (.t 10))])
   (.seq (.cond (.t 12)
    (.skip)
    (.exit 0))
   (.seq (.block 1 (.seq (.ops [S 13 (.mv (.t 11)),
      S 14 (.ixa 1 (.t 9) (.t 11)),
      S 15 (.ld false 1 (.t 14)),
      S 5 (.mv (.t 13)),
      S 6 (.mv (.t 15))])
    (.seq (.seq (.ops [S 16 (.mv (.t 5)),
      S 17 (.mv (.t 1)),
      S 18 (.len 0 (.t 17)),
      S 19 (.bin .geq .none (.t 16) (.t 18))])
    (.cond (.t 19)
     (.seq (.ops [S 4 (.mv (xI 1))])
     (.ret))
     (.skip)))
    (.seq (.ops [S 20 (.mv (.t 1)),
      S 21 (.mv (.t 5)),
      S 22 (.ixa 1 (.t 20) (.t 21)),
      S 23 (.ld false 1 (.t 22)),
      S 7 (.mv (.t 23))])
    (.seq (.ops [S 24 (.mv (.t 6)),
      S 25 (.mv (.t 7)),
      S 26 (.call n_cmp_Compare [(.t 24), (.t 25)]),
      S 8 (.mv (.t 26))])
    (.seq (.ops [S 27 (.mv (.t 8)),
      S 28 (.bin .neq .none (.t 27) (xI 0))])
    (.cond (.t 28)
     (.seq (.ops [S 29 (.mv (.t 8)),
       S 4 (.mv (.t 29))])
     (.ret))
     (.skip))))))))
   (.ops [S 30 (.bin .add .none (.t 11) (xI 1)),
     S 11 (.mv (.t 30))])))))))
 (.seq (.seq (.ops [S 31 (.mv (.t 0)),
   S 32 (.len 0 (.t 31)),
   S 33 (.mv (.t 1)),
   S 34 (.len 0 (.t 33)),
   S 35 (.bin .lss .none (.t 32) (.t 34))])
 (.cond (.t 35)
  (.seq (.ops [S 4 (.mv (xI (-1)))])
  (.ret))
  (.skip)))
 (.seq (.ops [S 4 (.mv (xI 0))])
 (.ret)))),
 [.tmp 4], false, false, false⟩
/- sibyl/sibyllaw14.feed$1 -/
def d_sibyllaw14_feed_1 : DFn := ⟨3,
 .seq (.ops [S 3 (.box true 2 (.t 0)),
   S 4 (.new true [(eI 0), (eI 0), (eI 0), (eI 0), (eI 0), (eI 0)]),
   S 5 (.mv (xB false))])
 (.seq (.seq (.ops [S 6 (.fld 0 (.t 3)),
   S 7 (.ld false 1 (.t 6)),
   S 8 (.bin .lss .none (.t 7) (xI 0)),
   S 9 (.mv (.t 8)),
   ⟨(some 10), .fld 0 (.t 3), (some (9, false)), []⟩,
   ⟨(some 11), .ld false 1 (.t 10), (some (9, false)), []⟩,
   ⟨(some 12), .ld false 1 (.t 1), (some (9, false)), []⟩,
   ⟨(some 13), .bin .gtr .none (.t 11) (.t 12), (some (9, false)), []⟩,
   S 14 (.pick (.t 9) (xB true) (.t 13)),
   S 15 (.mv (.t 14)),
   ⟨(some 16), .fld 1 (.t 3), (some (15, false)), []⟩,
   ⟨(some 17), .ld false 1 (.t 16), (some (15, false)), []⟩,
   ⟨(some 18), .bin .neq .none (.t 17) (xI 7), (some (15, false)), []⟩,
   S 19 (.pick (.t 15) (xB true) (.t 18))])
 (.cond (.t 19)
  (.seq (.ops [S 20 (.build [(eI 0), (eI 0), (eI 0), (eI 0), (eI 0), (eI 0)] []),
    E (.st 6 (.t 4) (.t 20)),
    S 5 (.mv (xB false))])
  (.ret))
  (.skip)))
 (.seq (.ops [S 21 (.ld false 1 (.t 2)),
   S 22 (.fld 0 (.t 3)),
   S 23 (.ld false 1 (.t 22)),
   S 24 (.ixa 6 (.t 21) (.t 23)),
   S 25 (.ld true 6 (.t 24)),
   E (.st 6 (.t 4) (.t 25)),
   S 5 (.mv (xB true))])
 (.ret))),
 [.cell 4 true 6, .tmp 5], false, false, false⟩
/- sibyl/sibyllaw14.stamp -/
def d_sibyllaw14_stamp : DFn := ⟨1,
 .seq (.ops [S 2 (.mv (xI 0))])
 (.seq (.ops [S 3 (.mv (.t 0)),
   S 4 (.bin .mul .none (xI 3) (.t 3)),
   S 5 (.bin .add .none (xI 5) (.t 4)),
   S 2 (.mv (.t 5))])
 (.ret)),
 [.tmp 2], false, false, false⟩
/- slices.pdqsortCmpFunc[sibyl/api.Ref] -/
def d_slices_pdqsortCmpFunc : DFn := ⟨5,
 .seq (.ops [S 10 (.mv (xB true))])
 (.seq (.ops [S 11 (.mv (xB true))])
 (.block 0 (.loop [0, 1, 2, 3, 4, 10, 11] (.block 1 (.seq (.ops [S 21 (.mv (.t 2)),
      S 22 (.mv (.t 1)),
      S 23 (.bin .sub .none (.t 21) (.t 22)),
      S 12 (.mv (.t 23))])
    (.seq (.seq (.ops [S 24 (.mv (.t 12)),
      S 25 (.bin .leq .none (.t 24) (xI 12))])
    (.cond (.t 25)
     (.seq (.ops [S 26 (.mv (.t 0)),
       S 27 (.mv (.t 1)),
       S 28 (.mv (.t 2)),
       S 29 (.mv (.t 4)),
       S 30 (.call n_slices_insertionSortCmpFunc_69 [(.t 26), (.t 27), (.t 28), (.t 29)])])
     (.ret))
     (.skip)))
    (.seq (.seq (.ops [S 31 (.mv (.t 3)),
      S 32 (.bin .eql .none (.t 31) (xI 0))])
    (.cond (.t 32)
     (.seq (.ops [S 33 (.mv (.t 0)),
       S 34 (.mv (.t 1)),
       S 35 (.mv (.t 2)),
       S 36 (.mv (.t 4)),
       S 37 (.call n_slices_heapSortCmpFunc [(.t 33), (.t 34), (.t 35), (.t 36)])])
     (.ret))
     (.skip)))
    (.seq (.seq (.ops [S 38 (.mv (.t 10)),
      S 39 (.un .not (.t 38))])
    (.cond (.t 39)
     (.seq (.ops [S 40 (.mv (.t 0)),
       S 41 (.mv (.t 1)),
       S 42 (.mv (.t 2)),
       S 43 (.mv (.t 4)),
       S 44 (.call n_slices_breakPatternsCmpFunc [(.t 40), (.t 41), (.t 42), (.t 43)])])
     (.ops [S 45 (.mv (.t 3)),
       S 46 (.bin .sub .none (.t 45) (xI 1)),
       S 3 (.mv (.t 46))]))
     (.skip)))
    (.seq (.ops [S 48 (.mv (.t 0)),
      S 49 (.mv (.t 1)),
      S 50 (.mv (.t 2)),
      S 51 (.mv (.t 4)),
      S 52 (.call n_slices_choosePivotCmpFunc [(.t 48), (.t 49), (.t 50), (.t 51)]),
      S 47 (.mv (.t 52)),
      S 53 (.ext (.t 47) 0),
      S 54 (.ext (.t 47) 1),
      S 13 (.mv (.t 53)),
      S 14 (.mv (.t 54))])
    (.seq (.seq (.ops [S 55 (.mv (.t 14)),
      S 56 (.bin .eql .none (.t 55) (xI 2))])
    (.cond (.t 56)
     (.seq (.ops [S 57 (.mv (.t 0)),
       S 58 (.mv (.t 1)),
       S 59 (.mv (.t 2)),
       S 60 (.mv (.t 4)),
       S 61 (.call n_slices_reverseRangeCmpFunc [(.t 57), (.t 58), (.t 59), (.t 60)])])
     (.seq (.ops [S 62 (.mv (.t 2)),
       S 63 (.bin .sub .none (.t 62) (xI 1)),
       S 64 (.mv (.t 13)),
       S 65 (.mv (.t 1)),
       S 66 (.bin .sub .none (.t 64) (.t 65)),
       S 67 (.bin .sub .none (.t 63) (.t 66)),
       S 13 (.mv (.t 67))])
     (.ops [S 14 (.mv (xI 1))])))
     (.skip)))
    (.seq (.seq (.ops [S 68 (.mv (.t 10)),
      S 69 (.mv (.t 68)),
      ⟨(some 70), .mv (.t 11), (some (69, true)), []⟩,
      S 71 (.pick (.t 69) (.t 70) (xB false)),
      S 72 (.mv (.t 71)),
      ⟨(some 73), .mv (.t 14), (some (72, true)), []⟩,
      ⟨(some 74), .bin .eql .none (.t 73) (xI 1), (some (72, true)), []⟩,
      S 75 (.pick (.t 72) (.t 74) (xB false))])
    (.cond (.t 75)
     (.seq (.ops [S 76 (.mv (.t 0)),
       S 77 (.mv (.t 1)),
       S 78 (.mv (.t 2)),
       S 79 (.mv (.t 4)),
       S 80 (.call n_slices_partialInsertionSortCmpFunc [(.t 76), (.t 77), (.t 78), (.t 79)])])
     (.cond (.t 80)
      (.ret)
      (.skip)))
     (.skip)))
    (.seq (.seq (.ops [S 81 (.mv (.t 1)),
      S 82 (.bin .gtr .none (.t 81) (xI 0)),
      S 83 (.mv (.t 82)),
      ⟨(some 84), .mv (.t 4), (some (83, true)), []⟩,
      ⟨(some 85), .mv (.t 0), (some (83, true)), []⟩,
      ⟨(some 86), .mv (.t 1), (some (83, true)), []⟩,
      ⟨(some 87), .bin .sub .none (.t 86) (xI 1), (some (83, true)), []⟩,
      ⟨(some 88), .ixa 2 (.t 85) (.t 87), (some (83, true)), []⟩,
      ⟨(some 89), .ld true 2 (.t 88), (some (83, true)), []⟩,
      ⟨(some 90), .mv (.t 0), (some (83, true)), []⟩,
      ⟨(some 91), .mv (.t 13), (some (83, true)), []⟩,
      ⟨(some 92), .ixa 2 (.t 90) (.t 91), (some (83, true)), []⟩,
      ⟨(some 93), .ld true 2 (.t 92), (some (83, true)), []⟩,
      ⟨(some 94), .callv (.t 84) [(.t 89), (.t 93)], (some (83, true)), []⟩,
      ⟨(some 95), .bin .lss .none (.t 94) (xI 0), (some (83, true)), []⟩,
      ⟨(some 96), .un .not (.t 95), (some (83, true)), []⟩,
      S 97 (.pick (.t 83) (.t 96) (xB false))])
    (.cond (.t 97)
     (.seq (.ops [S 98 (.mv (.t 0)),
       S 99 (.mv (.t 1)),
       S 100 (.mv (.t 2)),
       S 101 (.mv (.t 13)),
       S 102 (.mv (.t 4)),
       S 103 (.call n_slices_partitionEqualCmpFunc [(.t 98), (.t 99), (.t 100), (.t 101), (.t 102)]),
       S 15 (.mv (.t 103))])
     (.seq (.ops [S 104 (.mv (.t 15)),
       S 1 (.mv (.t 104))])
     (.exit 1)))
     (.skip)))
    (.seq (.ops [S 106 (.mv (.t 0)),
      S 107 (.mv (.t 1)),
      S 108 (.mv (.t 2)),
      S 109 (.mv (.t 13)),
      S 110 (.mv (.t 4)),
      S 111 (.call n_slices_partitionCmpFunc [(.t 106), (.t 107), (.t 108), (.t 109), (.t 110)]),
      S 105 (.mv (.t 111)),
      S 112 (.ext (.t 105) 0),
      S 113 (.ext (.t 105) 1),
      S 16 (.mv (.t 112)),
      S 17 (.mv (.t 113))])
    (.seq (.ops [S 114 (.mv (.t 17)),
      S 11 (.mv (.t 114))])
    (.seq (.ops [S 115 (.mv (.t 16)),
      S 116 (.mv (.t 1)),
      S 117 (.bin .sub .none (.t 115) (.t 116)),
      S 118 (.mv (.t 2)),
      S 119 (.mv (.t 16)),
      S 120 (.bin .sub .none (.t 118) (.t 119)),
      S 18 (.mv (.t 117)),
      S 19 (.mv (.t 120))])
    (.seq (.ops [S 121 (.mv (.t 12)),
      S 122 (.bin .quo .none (.t 121) (xI 8)),
      S 20 (.mv (.t 122))])
    (.seq (.ops [S 123 (.mv (.t 18)),
      S 124 (.mv (.t 19)),
      S 125 (.bin .lss .none (.t 123) (.t 124))])
    (.cond (.t 125)
     (.seq (.ops [S 126 (.mv (.t 18)),
       S 127 (.mv (.t 20)),
       S 128 (.bin .geq .none (.t 126) (.t 127)),
       S 10 (.mv (.t 128))])
     (.seq (.ops [S 129 (.mv (.t 0)),
       S 130 (.mv (.t 1)),
       S 131 (.mv (.t 16)),
       S 132 (.mv (.t 3)),
       S 133 (.mv (.t 4)),
       S 134 (.call n_slices_pdqsortCmpFunc [(.t 129), (.t 130), (.t 131), (.t 132), (.t 133)])])
     (.ops [S 135 (.mv (.t 16)),
       S 136 (.bin .add .none (.t 135) (xI 1)),
       S 1 (.mv (.t 136))])))
     (.seq (.ops [S 137 (.mv (.t 19)),
       S 138 (.mv (.t 20)),
       S 139 (.bin .geq .none (.t 137) (.t 138)),
       S 10 (.mv (.t 139))])
     (.seq (.ops [S 140 (.mv (.t 0)),
       S 141 (.mv (.t 16)),
       S 142 (.bin .add .none (.t 141) (xI 1)),
       S 143 (.mv (.t 2)),
       S 144 (.mv (.t 3)),
       S 145 (.mv (.t 4)),
       S 146 (.call n_slices_pdqsortCmpFunc [(.t 140), (.t 142), (.t 143), (.t 144), (.t 145)])])
     (.ops [S 147 (.mv (.t 16)),
       S 2 (.mv (.t 147))]))))))))))))))))))))),
 [], false, false, false⟩
/- math/bits.Len -/
def d_math_bits_Len : DFn := ⟨1,
 .seq (.ops [S 2 (.mv (xI 0))])
 (.seq (.cond (xB false)
  (.seq (.ops [S 3 (.mv (.t 0)),
    S 4 (.conv .u32 (.t 3)),
    S 5 (.call n_math_bits_Len32 [(.t 4)]),
    S 2 (.mv (.t 5))])
  (.ret))
  (.skip))
 (.seq (.ops [S 6 (.mv (.t 0)),
   S 7 (.call n_math_bits_Len64 [(.t 6)]),
   S 2 (.mv (.t 7))])
 (.ret))),
 [.tmp 2], false, false, false⟩
/- cmp.isNaN[int] -/
def d_cmp_isNaN : DFn := ⟨1,
 .seq (.ops [S 2 (.mv (xB false))])
 (.seq (.ops [S 3 (.mv (.t 0)),
   S 4 (.mv (.t 0)),
   S 5 (.bin .neq .none (.t 3) (.t 4)),
   S 2 (.mv (.t 5))])
 (.ret)),
 [.tmp 2], false, false, false⟩
/- sibyl/table.Right$1 -/
def d_table_Right_1 : DFn := ⟨3,
 .seq (.ops [S 3 (.box true 2 (.t 0)),
   S 4 (.mv (xB false))])
 (.seq (.ops [S 5 (.fld 0 (.t 3)),
   S 6 (.ld false 1 (.t 5)),
   S 7 (.call n_table_typed [(.t 6)]),
   S 8 (.un .not (.t 7)),
   S 9 (.mv (.t 8)),
   ⟨(some 10), .fld 1 (.t 3), (some (9, false)), []⟩,
   ⟨(some 11), .ld false 1 (.t 10), (some (9, false)), []⟩,
   ⟨(some 12), .ld false 1 (.t 1), (some (9, false)), []⟩,
   ⟨(some 13), .ld false 1 (.t 2), (some (9, false)), []⟩,
   ⟨(some 14), .call n_table_may [(.t 11), (.t 12), (.t 13)], (some (9, false)), []⟩,
   ⟨(some 15), .un .not (.t 14), (some (9, false)), []⟩,
   S 16 (.pick (.t 9) (xB true) (.t 15)),
   S 4 (.mv (.t 16))])
 (.ret)),
 [.tmp 4], false, false, false⟩
/- sibyl/table.typed -/
def d_table_typed : DFn := ⟨1,
 .seq (.ops [S 2 (.mv (xB false))])
 (.seq (.ops [S 3 (.mv (.t 0)),
   S 4 (.bin .geq .none (.t 3) (xI 0)),
   S 5 (.mv (.t 4)),
   ⟨(some 6), .mv (.t 0), (some (5, true)), []⟩,
   ⟨(some 7), .bin .lss .none (.t 6) (xI 8), (some (5, true)), []⟩,
   S 8 (.pick (.t 5) (.t 7) (xB false)),
   S 2 (.mv (.t 8))])
 (.ret)),
 [.tmp 2], false, false, false⟩
/- sibyl/table.may -/
def d_table_may : DFn := ⟨3,
 .seq (.ops [S 4 (.box false 1 (.t 1)),
   S 5 (.box false 1 (.t 2)),
   S 6 (.mv (xB false))])
 (.seq (.seq (.ops [S 10 (.mv (.t 0)),
   S 11 (.len 0 (.t 10)),
   S 12 (.mv (xI 0))])
 (.block 0 (.loop [4, 5, 10, 11, 12] (.seq (.ops [S 13 (.bin .lss .none (.t 12) (.t 11))])
   (.seq (.cond (.t 13)
    (.skip)
    (.exit 0))
   (.seq (.block 1 (.seq (.ops [S 14 (.ixa 3 (.t 10) (.t 12)),
      S 15 (.ld true 3 (.t 14)),
      S 8 (.new true [(eI 0), (.full []), (.full [])]),
      E (.st 3 (.t 8) (.t 15))])
    (.seq (.ops [S 16 (.mkf (.func n_table_may_1) [] [(.t 4), (.t 5)]),
      S 9 (.mv (.t 16))])
    (.seq (.ops [S 17 (.fld 0 (.t 8)),
      S 18 (.ld false 1 (.t 17)),
      S 19 (.bin .lss .none (.t 18) (xI 1)),
      S 20 (.mv (.t 19)),
      ⟨(some 21), .fld 0 (.t 8), (some (20, false)), []⟩,
      ⟨(some 22), .ld false 1 (.t 21), (some (20, false)), []⟩,
      ⟨(some 23), .bin .gtr .none (.t 22) (xI 6), (some (20, false)), []⟩,
      S 24 (.pick (.t 20) (xB true) (.t 23)),
      S 25 (.mv (.t 24)),
      ⟨(some 26), .fld 1 (.t 8), (some (25, false)), []⟩,
      ⟨(some 27), .ld false 1 (.t 26), (some (25, false)), []⟩,
      ⟨(some 28), .fld 2 (.t 8), (some (25, false)), []⟩,
      ⟨(some 29), .ld false 1 (.t 28), (some (25, false)), []⟩,
      ⟨(some 30), .lit 1 false [[(.full [])], [(.full [])]] [(0, (.t 27)), (1, (.t 29))], (some (25, false)), []⟩,
      ⟨(some 31), .call n_slices_Concat_82 [(.t 30)], (some (25, false)), []⟩,
      ⟨(some 32), .mv (.t 9), (some (25, false)), []⟩,
      ⟨(some 33), .call n_slices_ContainsFunc_81 [(.t 31), (.t 32)], (some (25, false)), []⟩,
      S 34 (.pick (.t 25) (xB true) (.t 33))])
    (.cond (.t 34)
     (.seq (.ops [S 6 (.mv (xB false))])
     (.ret))
     (.skip))))))
   (.ops [S 35 (.bin .add .none (.t 12) (xI 1)),
     S 12 (.mv (.t 35))])))))))
 (.seq (.ops [S 6 (.mv (xB true))])
 (.ret))),
 [.tmp 6], false, false, false⟩
/- slices.ContainsFunc[[]sibyl/api.Guard,sibyl/api.Guard] -/
def d_slices_ContainsFunc : DFn := ⟨2,
 .seq (.ops [S 4 (.mv (xB false))])
 (.seq (.ops [S 5 (.mv (.t 0)),
   S 6 (.mv (.t 1)),
   S 7 (.call n_slices_IndexFunc [(.t 5), (.t 6)]),
   S 8 (.bin .geq .none (.t 7) (xI 0)),
   S 4 (.mv (.t 8))])
 (.ret)),
 [.tmp 4], false, false, false⟩
/- slices.Concat[[]int,int] -/
def d_slices_Concat : DFn := ⟨1,
 .seq (.ops [S 2 (.nils 1 false)])
 (.seq (.ops [S 3 (.mv (xI 0))])
 (.seq (.seq (.ops [S 9 (.mv (.t 0)),
   S 10 (.len 0 (.t 9)),
   S 11 (.mv (xI 0))])
 (.block 0 (.loop [0, 3, 9, 10, 11] (.seq (.ops [S 12 (.bin .lss .none (.t 11) (.t 10))])
   (.seq (.cond (.t 12)
    (.skip)
    (.exit 0))
   (.seq (.block 1 (.seq (.ops [S 13 (.ixa 1 (.t 9) (.t 11)),
      S 14 (.ld false 1 (.t 13)),
      S 5 (.mv (.t 14))])
    (.seq (.ops [S 15 (.mv (.t 3)),
      S 16 (.mv (.t 5)),
      S 17 (.len 0 (.t 16)),
      S 18 (.bin .add .none (.t 15) (.t 17)),
      S 3 (.mv (.t 18))])
    (.seq (.ops [S 19 (.mv (.t 3)),
      S 20 (.bin .lss .none (.t 19) (xI 0))])
    (.cond (.t 20)
     (.ops [E (.nz (.v .junk))])
     (.skip))))))
   (.ops [S 22 (.bin .add .none (.t 11) (xI 1)),
     S 11 (.mv (.t 22))])))))))
 (.seq (.ops [S 23 (.mv (.t 3)),
   S 24 (.call n_slices_Grow [(.v (.full [])), (.t 23)]),
   S 6 (.mv (.t 24))])
 (.seq (.seq (.ops [S 25 (.mv (.t 0)),
   S 26 (.len 0 (.t 25)),
   S 27 (.mv (xI 0))])
 (.block 2 (.loop [6, 25, 26, 27] (.seq (.ops [S 28 (.bin .lss .none (.t 27) (.t 26))])
   (.seq (.cond (.t 28)
    (.skip)
    (.exit 2))
   (.seq (.block 3 (.seq (.ops [S 29 (.ixa 1 (.t 25) (.t 27)),
      S 30 (.ld false 1 (.t 29)),
      S 8 (.mv (.t 30))])
    (.ops [S 31 (.mv (.t 6)),
      S 32 (.mv (.t 8)),
      S 33 (.app 1 false 8 (.t 31) (.t 32)),
      S 6 (.mv (.t 33))])))
   (.ops [S 34 (.bin .add .none (.t 27) (xI 1)),
     S 27 (.mv (.t 34))])))))))
 (.seq (.ops [S 35 (.mv (.t 6)),
   S 2 (.mv (.t 35))])
 (.ret)))))),
 [.tmp 2], false, false, false⟩
/- sibyl/runs.shifted$1 -/
def d_runs_shifted_1 : DFn := ⟨2,
 .seq (.ops [S 3 (.nils 1 false)])
 (.seq (.ops [S 4 (.mv (.t 0)),
   S 5 (.mkf (.func n_runs_shifted_1_1) [] [(.t 1)]),
   S 6 (.call n_runs_mapped_40 [(.t 4), (.t 5)]),
   S 3 (.mv (.t 6))])
 (.ret)),
 [.tmp 3], false, false, false⟩
/- sibyl/runs.shifted$1$1 -/
def d_runs_shifted_1_1 : DFn := ⟨2,
 .seq (.ops [S 3 (.mv (xI 0))])
 (.seq (.ops [S 4 (.mv (.t 0)),
   S 5 (.ld false 1 (.t 1)),
   S 6 (.bin .sub .none (.t 4) (.t 5)),
   S 3 (.mv (.t 6))])
 (.ret)),
 [.tmp 3], false, false, false⟩
/- sibyl/step.Fits -/
def d_step_Fits : DFn := ⟨3,
 .seq (.ops [S 3 (.box true 3 (.t 0)),
   S 4 (.box true 3 (.t 1)),
   S 6 (.mv (xB false))])
 (.seq (.seq (.ops [S 12 (.ld true 3 (.t 3)),
   S 13 (.call n_table_Right [(.t 12)]),
   S 14 (.un .not (.t 13)),
   S 15 (.mv (.t 14)),
   ⟨(some 16), .fld 0 (.t 4), (some (15, false)), []⟩,
   ⟨(some 17), .ld false 1 (.t 16), (some (15, false)), []⟩,
   ⟨(some 18), .bin .lss .none (.t 17) (xI 0), (some (15, false)), []⟩,
   S 19 (.pick (.t 15) (xB true) (.t 18)),
   S 20 (.mv (.t 19)),
   ⟨(some 21), .fld 0 (.t 4), (some (20, false)), []⟩,
   ⟨(some 22), .ld false 1 (.t 21), (some (20, false)), []⟩,
   ⟨(some 23), .fld 0 (.t 3), (some (20, false)), []⟩,
   ⟨(some 24), .ld false 1 (.t 23), (some (20, false)), []⟩,
   ⟨(some 25), .len 0 (.t 24), (some (20, false)), []⟩,
   ⟨(some 26), .bin .geq .none (.t 22) (.t 25), (some (20, false)), []⟩,
   S 27 (.pick (.t 20) (xB true) (.t 26)),
   S 28 (.mv (.t 27)),
   ⟨(some 29), .fld 1 (.t 4), (some (28, false)), []⟩,
   ⟨(some 30), .ld false 1 (.t 29), (some (28, false)), []⟩,
   ⟨(some 31), .len 0 (.t 30), (some (28, false)), []⟩,
   ⟨(some 32), .fld 0 (.t 4), (some (28, false)), []⟩,
   ⟨(some 33), .ld false 1 (.t 32), (some (28, false)), []⟩,
   ⟨(some 34), .bin .add .none (.t 33) (xI 1), (some (28, false)), []⟩,
   ⟨(some 35), .bin .neq .none (.t 31) (.t 34), (some (28, false)), []⟩,
   S 36 (.pick (.t 28) (xB true) (.t 35)),
   S 37 (.mv (.t 36)),
   ⟨(some 38), .fld 2 (.t 4), (some (37, false)), []⟩,
   ⟨(some 39), .ld false 1 (.t 38), (some (37, false)), []⟩,
   ⟨(some 40), .mv (.t 39), (some (37, false)), []⟩,
   ⟨(some 41), .fld 0 (.t 3), (some (40, true)), []⟩,
   ⟨(some 42), .ld false 1 (.t 41), (some (40, true)), []⟩,
   ⟨(some 43), .fld 0 (.t 4), (some (40, true)), []⟩,
   ⟨(some 44), .ld false 1 (.t 43), (some (40, true)), []⟩,
   ⟨(some 45), .ixa 4 (.t 42) (.t 44), (some (40, true)), []⟩,
   ⟨(some 46), .fld 1 (.t 45), (some (40, true)), []⟩,
   ⟨(some 47), .ld false 1 (.t 46), (some (40, true)), []⟩,
   ⟨(some 48), .un .not (.t 47), (some (40, true)), []⟩,
   ⟨(some 49), .pick (.t 40) (.t 48) (xB false), (some (37, false)), []⟩,
   S 50 (.pick (.t 37) (xB true) (.t 49))])
 (.cond (.t 50)
  (.seq (.ops [S 6 (.mv (xB false))])
  (.ret))
  (.skip)))
 (.seq (.ops [S 7 (.mv (xI (-1)))])
 (.seq (.seq (.ops [S 51 (.fld 1 (.t 4)),
   S 52 (.ld false 1 (.t 51)),
   S 53 (.len 0 (.t 52)),
   S 54 (.mv (xI 0))])
 (.block 0 (.loop [2, 3, 4, 7, 52, 53, 54] (.seq (.ops [S 55 (.bin .lss .none (.t 54) (.t 53))])
   (.seq (.cond (.t 55)
    (.skip)
    (.exit 0))
   (.seq (.block 1 (.seq (.ops [S 56 (.mv (.t 54)),
      S 57 (.ixa 1 (.t 52) (.t 54)),
      S 58 (.ld false 1 (.t 57)),
      S 8 (.mv (.t 56)),
      S 9 (.mv (.t 58))])
    (.seq (.seq (.ops [S 59 (.mv (.t 9)),
      S 60 (.len 0 (.t 59)),
      S 61 (.bin .eql .none (.t 60) (xI 0)),
      S 62 (.mv (.t 61)),
      ⟨(some 63), .mv (.t 9), (some (62, false)), []⟩,
      ⟨(some 64), .len 0 (.t 63), (some (62, false)), []⟩,
      ⟨(some 65), .bin .gtr .none (.t 64) (xI 1), (some (62, false)), []⟩,
      ⟨(some 66), .mv (.t 65), (some (62, false)), []⟩,
      ⟨(some 67), .fld 0 (.t 3), (some (66, true)), []⟩,
      ⟨(some 68), .ld false 1 (.t 67), (some (66, true)), []⟩,
      ⟨(some 69), .mv (.t 8), (some (66, true)), []⟩,
      ⟨(some 70), .ixa 4 (.t 68) (.t 69), (some (66, true)), []⟩,
      ⟨(some 71), .fld 1 (.t 70), (some (66, true)), []⟩,
      ⟨(some 72), .ld false 1 (.t 71), (some (66, true)), []⟩,
      ⟨(some 73), .un .not (.t 72), (some (66, true)), []⟩,
      ⟨(some 74), .pick (.t 66) (.t 73) (xB false), (some (62, false)), []⟩,
      S 75 (.pick (.t 62) (xB true) (.t 74))])
    (.cond (.t 75)
     (.seq (.ops [S 6 (.mv (xB false))])
     (.ret))
     (.skip)))
    (.seq (.ops [S 76 (.mv (.t 9)),
      S 77 (.len 0 (.t 76)),
      S 78 (.mv (xI 0))])
    (.block 2 (.loop [2, 3, 4, 7, 52, 53, 54, 76, 77, 78] (.seq (.ops [S 79 (.bin .lss .none (.t 78) (.t 77))])
      (.seq (.cond (.t 79)
       (.skip)
       (.exit 2))
      (.seq (.block 3 (.seq (.ops [S 80 (.ixa 1 (.t 76) (.t 78)),
         S 81 (.ld false 1 (.t 80)),
         S 11 (.mv (.t 81))])
       (.seq (.seq (.ops [S 82 (.mv (.t 11)),
         S 83 (.mv (.t 7)),
         S 84 (.bin .leq .none (.t 82) (.t 83)),
         S 85 (.mv (.t 84)),
         ⟨(some 86), .mv (.t 11), (some (85, false)), []⟩,
         ⟨(some 87), .mv (.t 2), (some (85, false)), []⟩,
         ⟨(some 88), .bin .geq .none (.t 86) (.t 87), (some (85, false)), []⟩,
         S 89 (.pick (.t 85) (xB true) (.t 88))])
       (.cond (.t 89)
        (.seq (.ops [S 6 (.mv (xB false))])
        (.ret))
        (.skip)))
       (.ops [S 90 (.mv (.t 11)),
         S 7 (.mv (.t 90))]))))
      (.ops [S 91 (.bin .add .none (.t 78) (xI 1)),
        S 78 (.mv (.t 91))]))))))))))
   (.ops [S 92 (.bin .add .none (.t 54) (xI 1)),
     S 54 (.mv (.t 92))])))))))
 (.seq (.ops [S 93 (.mv (.t 7)),
   S 94 (.fld 1 (.t 4)),
   S 95 (.ld false 1 (.t 94)),
   S 96 (.ixa 1 (.t 95) (xI 0)),
   S 97 (.ld false 1 (.t 96)),
   S 98 (.ixa 1 (.t 97) (xI 0)),
   S 99 (.ld false 1 (.t 98)),
   S 100 (.bin .sub .none (.t 93) (.t 99)),
   S 101 (.fld 1 (.t 3)),
   S 102 (.ld false 1 (.t 101)),
   S 103 (.bin .lss .none (.t 100) (.t 102)),
   S 6 (.mv (.t 103))])
 (.ret))))),
 [.tmp 6], false, false, false⟩
/- sibyl/step.Step$1 -/
def d_step_Step_1 : DFn := ⟨2,
 .seq (.ops [S 3 (.new true [(eI 0), (.full []), (eB false)])])
 (.seq (.ops [S 4 (.mv (.t 0)),
   S 5 (.fld 1 (.t 1)),
   S 6 (.ld false 1 (.t 5)),
   S 7 (.call n_step_copied [(.t 6)]),
   S 8 (.build [(eI 0), (.full []), (eB false)] [(0, 1, (.t 4)), (1, 1, (.t 7))]),
   E (.st 3 (.t 3) (.t 8))])
 (.ret)),
 [.cell 3 true 3], false, false, false⟩
/- sibyl/step.copied -/
def d_step_copied : DFn := ⟨1,
 .seq (.ops [S 2 (.nils 1 false)])
 (.seq (.ops [S 6 (.mv (.t 0)),
   S 7 (.len 0 (.t 6)),
   S 8 (.mks 1 false 24 [(.full [])] (.t 7) (.t 7)),
   S 3 (.mv (.t 8))])
 (.seq (.seq (.ops [S 9 (.mv (.t 0)),
   S 10 (.len 0 (.t 9)),
   S 11 (.mv (xI 0))])
 (.block 0 (.loop [3, 9, 10, 11] (.seq (.ops [S 12 (.bin .lss .none (.t 11) (.t 10))])
   (.seq (.cond (.t 12)
    (.skip)
    (.exit 0))
   (.seq (.block 1 (.seq (.ops [S 13 (.mv (.t 11)),
      S 14 (.ixa 1 (.t 9) (.t 11)),
      S 15 (.ld false 1 (.t 14)),
      S 4 (.mv (.t 13)),
      S 5 (.mv (.t 15))])
    (.ops [S 16 (.mv (.t 3)),
      S 17 (.mv (.t 4)),
      S 18 (.mv (.t 5)),
      S 19 (.call n_slices_Clone_85 [(.t 18)]),
      S 20 (.ixa 1 (.t 16) (.t 17)),
      E (.st 1 (.t 20) (.t 19))])))
   (.ops [S 21 (.bin .add .none (.t 11) (xI 1)),
     S 11 (.mv (.t 21))])))))))
 (.seq (.ops [S 22 (.mv (.t 3)),
   S 2 (.mv (.t 22))])
 (.ret)))),
 [.tmp 2], false, false, false⟩
/- sibyl/step.barred -/
def d_step_barred : DFn := ⟨3,
 .seq (.ops [S 3 (.box true 3 (.t 0)),
   S 4 (.box false 1 (.t 1)),
   S 5 (.box true 3 (.t 2)),
   S 6 (.mv (xB false))])
 (.seq (.ops [S 7 (.fld 0 (.t 3)),
   S 8 (.ld false 1 (.t 7)),
   S 9 (.fld 0 (.t 5)),
   S 10 (.ld false 1 (.t 9)),
   S 11 (.ixa 4 (.t 8) (.t 10)),
   S 12 (.fld 3 (.t 11)),
   S 13 (.ld false 1 (.t 12)),
   S 14 (.mkf (.func n_step_barred_1) [] [(.t 4), (.t 5), (.t 3)]),
   S 15 (.call n_slices_ContainsFunc [(.t 13), (.t 14)]),
   S 6 (.mv (.t 15))])
 (.ret)),
 [.tmp 6], false, false, false⟩
/- sibyl/step.takes -/
def d_step_takes : DFn := ⟨4,
 .seq (.ops [S 4 (.box true 3 (.t 0)),
   S 6 (.box true 3 (.t 2)),
   S 8 (.mv (xB false))])
 (.seq (.ops [S 10 (.fld 0 (.t 4)),
   S 11 (.ld false 1 (.t 10)),
   S 12 (.mv (.t 3)),
   S 13 (.ixa 4 (.t 11) (.t 12)),
   S 14 (.ld true 4 (.t 13)),
   S 9 (.new true [(eI 0), (eB false), (.full []), (.full [])]),
   E (.st 4 (.t 9) (.t 14))])
 (.seq (.ops [S 15 (.fld 0 (.t 9)),
   S 16 (.ld false 1 (.t 15)),
   S 17 (.mv (.t 1)),
   S 18 (.mv (.t 1)),
   S 19 (.len 0 (.t 18)),
   S 20 (.bin .sub .none (.t 19) (xI 1)),
   S 21 (.ixa 6 (.t 17) (.t 20)),
   S 22 (.fld 0 (.t 21)),
   S 23 (.ld false 1 (.t 22)),
   S 24 (.bin .eql .none (.t 16) (.t 23)),
   S 25 (.mv (.t 24)),
   ⟨(some 26), .fld 2 (.t 9), (some (25, true)), []⟩,
   ⟨(some 27), .ld false 1 (.t 26), (some (25, true)), []⟩,
   ⟨(some 28), .mv (.t 1), (some (25, true)), []⟩,
   ⟨(some 29), .ld true 3 (.t 6), (some (25, true)), []⟩,
   ⟨(some 30), .mv (.t 3), (some (25, true)), []⟩,
   ⟨(some 31), .call n_step_sets [(.t 28), (.t 29), (.t 30)], (some (25, true)), [(27, .ld false 1 (.t 26), (some (25, true)))]⟩,
   ⟨(some 32), .call n_pred_All [(.t 27), (.t 31)], (some (25, true)), []⟩,
   S 33 (.pick (.t 25) (.t 32) (xB false)),
   S 8 (.mv (.t 33))])
 (.ret))),
 [.tmp 8], false, false, false⟩
/- sibyl/step.with -/
def d_step_with : DFn := ⟨3,
 .seq (.ops [S 6 (.nils 1 false)])
 (.seq (.seq (.ops [S 8 (.mv (.t 1)),
   S 9 (.mv (.t 0)),
   S 10 (.len 0 (.t 9)),
   S 11 (.bin .eql .none (.t 8) (.t 10))])
 (.cond (.t 11)
  (.seq (.ops [S 12 (.mv (.t 0)),
    S 13 (.mv (.t 1)),
    S 14 (.mv (.t 1)),
    S 15 (.slc 1 (.t 12) none (some (.t 13)) (some (.t 14))),
    S 16 (.mv (.t 2)),
    S 17 (.lit 1 false [[(eI 0)]] [(0, (.t 16))]),
    S 18 (.lit 1 false [[(.full [])]] [(0, (.t 17))]),
    S 19 (.app 1 false 24 (.t 15) (.t 18)),
    S 6 (.mv (.t 19))])
  (.ret))
  (.skip)))
 (.seq (.ops [S 20 (.mv (.t 0)),
   S 21 (.mv (.t 1)),
   S 22 (.ixa 1 (.t 20) (.t 21)),
   S 23 (.ld false 1 (.t 22)),
   S 7 (.mv (.t 23))])
 (.seq (.ops [S 24 (.mv (.t 0)),
   S 25 (.mv (.t 1)),
   S 26 (.mv (.t 7)),
   S 27 (.mv (.t 7)),
   S 28 (.len 0 (.t 27)),
   S 29 (.mv (.t 7)),
   S 30 (.len 0 (.t 29)),
   S 31 (.slc 1 (.t 26) none (some (.t 28)) (some (.t 30))),
   S 32 (.mv (.t 2)),
   S 33 (.lit 1 false [[(eI 0)]] [(0, (.t 32))]),
   S 34 (.app 1 false 8 (.t 31) (.t 33)),
   S 35 (.ixa 1 (.t 24) (.t 25)),
   E (.st 1 (.t 35) (.t 34))])
 (.seq (.ops [S 36 (.mv (.t 0)),
   S 6 (.mv (.t 36))])
 (.ret))))),
 [.tmp 6], false, false, false⟩
/- slices.insertionSortCmpFunc[sibyl/api.Found] -/
def d_slices_insertionSortCmpFunc : DFn := ⟨4,
 .seq (.ops [S 10 (.mv (.t 1)),
   S 11 (.bin .add .none (.t 10) (xI 1)),
   S 8 (.mv (.t 11))])
 (.block 0 (.loop [0, 1, 2, 3, 8] (.seq (.seq (.ops [S 12 (.mv (.t 8)),
     S 13 (.mv (.t 2)),
     S 14 (.bin .lss .none (.t 12) (.t 13))])
   (.cond (.t 14)
    (.skip)
    (.exit 0)))
   (.seq (.block 1 (.seq (.ops [S 17 (.mv (.t 8)),
      S 9 (.mv (.t 17))])
    (.block 2 (.loop [0, 1, 2, 3, 8, 9] (.seq (.seq (.ops [S 18 (.mv (.t 9)),
        S 19 (.mv (.t 1)),
        S 20 (.bin .gtr .none (.t 18) (.t 19)),
        S 21 (.mv (.t 20)),
        ⟨(some 22), .mv (.t 3), (some (21, true)), []⟩,
        ⟨(some 23), .mv (.t 0), (some (21, true)), []⟩,
        ⟨(some 24), .mv (.t 9), (some (21, true)), []⟩,
        ⟨(some 25), .ixa 2 (.t 23) (.t 24), (some (21, true)), []⟩,
        ⟨(some 26), .ld true 2 (.t 25), (some (21, true)), []⟩,
        ⟨(some 27), .mv (.t 0), (some (21, true)), []⟩,
        ⟨(some 28), .mv (.t 9), (some (21, true)), []⟩,
        ⟨(some 29), .bin .sub .none (.t 28) (xI 1), (some (21, true)), []⟩,
        ⟨(some 30), .ixa 2 (.t 27) (.t 29), (some (21, true)), []⟩,
        ⟨(some 31), .ld true 2 (.t 30), (some (21, true)), []⟩,
        ⟨(some 32), .callv (.t 22) [(.t 26), (.t 31)], (some (21, true)), []⟩,
        ⟨(some 33), .bin .lss .none (.t 32) (xI 0), (some (21, true)), []⟩,
        S 34 (.pick (.t 21) (.t 33) (xB false))])
      (.cond (.t 34)
       (.skip)
       (.exit 2)))
      (.seq (.block 3 (.ops [S 37 (.mv (.t 0)),
         S 38 (.mv (.t 9)),
         S 39 (.mv (.t 0)),
         S 40 (.mv (.t 9)),
         S 41 (.bin .sub .none (.t 40) (xI 1)),
         S 42 (.mv (.t 0)),
         S 43 (.mv (.t 9)),
         S 44 (.bin .sub .none (.t 43) (xI 1)),
         S 45 (.ixa 2 (.t 42) (.t 44)),
         S 46 (.ld true 2 (.t 45)),
         S 47 (.mv (.t 0)),
         S 48 (.mv (.t 9)),
         S 49 (.ixa 2 (.t 47) (.t 48)),
         S 50 (.ld true 2 (.t 49)),
         S 51 (.ixa 2 (.t 37) (.t 38)),
         E (.st 2 (.t 51) (.t 46)),
         S 52 (.ixa 2 (.t 39) (.t 41)),
         E (.st 2 (.t 52) (.t 50))]))
      (.ops [S 35 (.mv (.t 9)),
        S 36 (.bin .sub .none (.t 35) (xI 1)),
        S 9 (.mv (.t 36))])))))))
   (.ops [S 15 (.mv (.t 8)),
     S 16 (.bin .add .none (.t 15) (xI 1)),
     S 8 (.mv (.t 16))]))))),
 [], false, false, false⟩
/- slices.symMergeCmpFunc[sibyl/api.Found] -/
def d_slices_symMergeCmpFunc : DFn := ⟨5,
 .seq (.seq (.ops [S 25 (.mv (.t 2)),
   S 26 (.mv (.t 1)),
   S 27 (.bin .sub .none (.t 25) (.t 26)),
   S 28 (.bin .eql .none (.t 27) (xI 1))])
 (.cond (.t 28)
  (.seq (.ops [S 29 (.mv (.t 2)),
    S 10 (.mv (.t 29))])
  (.seq (.ops [S 30 (.mv (.t 3)),
    S 11 (.mv (.t 30))])
  (.seq (.block 0 (.loop [0, 1, 4, 10, 11] (.seq (.seq (.ops [S 31 (.mv (.t 10)),
      S 32 (.mv (.t 11)),
      S 33 (.bin .lss .none (.t 31) (.t 32))])
    (.cond (.t 33)
     (.skip)
     (.exit 0)))
    (.block 1 (.seq (.ops [S 34 (.mv (.t 10)),
       S 35 (.mv (.t 11)),
       S 36 (.bin .add .none (.t 34) (.t 35)),
       S 37 (.conv .u64 (.t 36)),
       S 38 (.bin .shr .none (.t 37) (.v (.p (.int .u64 1)))),
       S 39 (.conv .i64 (.t 38)),
       S 12 (.mv (.t 39))])
     (.seq (.ops [S 40 (.mv (.t 4)),
       S 41 (.mv (.t 0)),
       S 42 (.mv (.t 12)),
       S 43 (.ixa 2 (.t 41) (.t 42)),
       S 44 (.ld true 2 (.t 43)),
       S 45 (.mv (.t 0)),
       S 46 (.mv (.t 1)),
       S 47 (.ixa 2 (.t 45) (.t 46)),
       S 48 (.ld true 2 (.t 47)),
       S 49 (.callv (.t 40) [(.t 44), (.t 48)]),
       S 50 (.bin .lss .none (.t 49) (xI 0))])
     (.cond (.t 50)
      (.ops [S 51 (.mv (.t 12)),
        S 52 (.bin .add .none (.t 51) (xI 1)),
        S 10 (.mv (.t 52))])
      (.ops [S 53 (.mv (.t 12)),
        S 11 (.mv (.t 53))]))))))))
  (.seq (.seq (.ops [S 54 (.mv (.t 1)),
    S 13 (.mv (.t 54))])
  (.block 2 (.loop [0, 10, 13] (.seq (.seq (.ops [S 55 (.mv (.t 13)),
      S 56 (.mv (.t 10)),
      S 57 (.bin .sub .none (.t 56) (xI 1)),
      S 58 (.bin .lss .none (.t 55) (.t 57))])
    (.cond (.t 58)
     (.skip)
     (.exit 2)))
    (.seq (.block 3 (.ops [S 61 (.mv (.t 0)),
       S 62 (.mv (.t 13)),
       S 63 (.mv (.t 0)),
       S 64 (.mv (.t 13)),
       S 65 (.bin .add .none (.t 64) (xI 1)),
       S 66 (.mv (.t 0)),
       S 67 (.mv (.t 13)),
       S 68 (.bin .add .none (.t 67) (xI 1)),
       S 69 (.ixa 2 (.t 66) (.t 68)),
       S 70 (.ld true 2 (.t 69)),
       S 71 (.mv (.t 0)),
       S 72 (.mv (.t 13)),
       S 73 (.ixa 2 (.t 71) (.t 72)),
       S 74 (.ld true 2 (.t 73)),
       S 75 (.ixa 2 (.t 61) (.t 62)),
       E (.st 2 (.t 75) (.t 70)),
       S 76 (.ixa 2 (.t 63) (.t 65)),
       E (.st 2 (.t 76) (.t 74))]))
    (.ops [S 59 (.mv (.t 13)),
      S 60 (.bin .add .none (.t 59) (xI 1)),
      S 13 (.mv (.t 60))]))))))
  (.ret)))))
  (.skip)))
 (.seq (.seq (.ops [S 77 (.mv (.t 3)),
   S 78 (.mv (.t 2)),
   S 79 (.bin .sub .none (.t 77) (.t 78)),
   S 80 (.bin .eql .none (.t 79) (xI 1))])
 (.cond (.t 80)
  (.seq (.ops [S 81 (.mv (.t 1)),
    S 14 (.mv (.t 81))])
  (.seq (.ops [S 82 (.mv (.t 2)),
    S 15 (.mv (.t 82))])
  (.seq (.block 4 (.loop [0, 2, 4, 14, 15] (.seq (.seq (.ops [S 83 (.mv (.t 14)),
      S 84 (.mv (.t 15)),
      S 85 (.bin .lss .none (.t 83) (.t 84))])
    (.cond (.t 85)
     (.skip)
     (.exit 4)))
    (.block 5 (.seq (.ops [S 86 (.mv (.t 14)),
       S 87 (.mv (.t 15)),
       S 88 (.bin .add .none (.t 86) (.t 87)),
       S 89 (.conv .u64 (.t 88)),
       S 90 (.bin .shr .none (.t 89) (.v (.p (.int .u64 1)))),
       S 91 (.conv .i64 (.t 90)),
       S 16 (.mv (.t 91))])
     (.seq (.ops [S 92 (.mv (.t 4)),
       S 93 (.mv (.t 0)),
       S 94 (.mv (.t 2)),
       S 95 (.ixa 2 (.t 93) (.t 94)),
       S 96 (.ld true 2 (.t 95)),
       S 97 (.mv (.t 0)),
       S 98 (.mv (.t 16)),
       S 99 (.ixa 2 (.t 97) (.t 98)),
       S 100 (.ld true 2 (.t 99)),
       S 101 (.callv (.t 92) [(.t 96), (.t 100)]),
       S 102 (.bin .lss .none (.t 101) (xI 0)),
       S 103 (.un .not (.t 102))])
     (.cond (.t 103)
      (.ops [S 104 (.mv (.t 16)),
        S 105 (.bin .add .none (.t 104) (xI 1)),
        S 14 (.mv (.t 105))])
      (.ops [S 106 (.mv (.t 16)),
        S 15 (.mv (.t 106))]))))))))
  (.seq (.seq (.ops [S 107 (.mv (.t 2)),
    S 17 (.mv (.t 107))])
  (.block 6 (.loop [0, 14, 17] (.seq (.seq (.ops [S 108 (.mv (.t 17)),
      S 109 (.mv (.t 14)),
      S 110 (.bin .gtr .none (.t 108) (.t 109))])
    (.cond (.t 110)
     (.skip)
     (.exit 6)))
    (.seq (.block 7 (.ops [S 113 (.mv (.t 0)),
       S 114 (.mv (.t 17)),
       S 115 (.mv (.t 0)),
       S 116 (.mv (.t 17)),
       S 117 (.bin .sub .none (.t 116) (xI 1)),
       S 118 (.mv (.t 0)),
       S 119 (.mv (.t 17)),
       S 120 (.bin .sub .none (.t 119) (xI 1)),
       S 121 (.ixa 2 (.t 118) (.t 120)),
       S 122 (.ld true 2 (.t 121)),
       S 123 (.mv (.t 0)),
       S 124 (.mv (.t 17)),
       S 125 (.ixa 2 (.t 123) (.t 124)),
       S 126 (.ld true 2 (.t 125)),
       S 127 (.ixa 2 (.t 113) (.t 114)),
       E (.st 2 (.t 127) (.t 122)),
       S 128 (.ixa 2 (.t 115) (.t 117)),
       E (.st 2 (.t 128) (.t 126))]))
    (.ops [S 111 (.mv (.t 17)),
      S 112 (.bin .sub .none (.t 111) (xI 1)),
      S 17 (.mv (.t 112))]))))))
  (.ret)))))
  (.skip)))
 (.seq (.ops [S 129 (.mv (.t 1)),
   S 130 (.mv (.t 3)),
   S 131 (.bin .add .none (.t 129) (.t 130)),
   S 132 (.conv .u64 (.t 131)),
   S 133 (.bin .shr .none (.t 132) (.v (.p (.int .u64 1)))),
   S 134 (.conv .i64 (.t 133)),
   S 18 (.mv (.t 134))])
 (.seq (.ops [S 135 (.mv (.t 18)),
   S 136 (.mv (.t 2)),
   S 137 (.bin .add .none (.t 135) (.t 136)),
   S 19 (.mv (.t 137))])
 (.seq (.ops [S 20 (.mv (xI 0)),
   S 21 (.mv (xI 0))])
 (.seq (.seq (.ops [S 138 (.mv (.t 2)),
   S 139 (.mv (.t 18)),
   S 140 (.bin .gtr .none (.t 138) (.t 139))])
 (.cond (.t 140)
  (.seq (.ops [S 141 (.mv (.t 19)),
    S 142 (.mv (.t 3)),
    S 143 (.bin .sub .none (.t 141) (.t 142)),
    S 20 (.mv (.t 143))])
  (.ops [S 144 (.mv (.t 18)),
    S 21 (.mv (.t 144))]))
  (.seq (.ops [S 145 (.mv (.t 1)),
    S 20 (.mv (.t 145))])
  (.ops [S 146 (.mv (.t 2)),
    S 21 (.mv (.t 146))]))))
 (.seq (.ops [S 147 (.mv (.t 19)),
   S 148 (.bin .sub .none (.t 147) (xI 1)),
   S 22 (.mv (.t 148))])
 (.seq (.block 8 (.loop [0, 1, 2, 3, 4, 18, 19, 20, 21, 22] (.seq (.seq (.ops [S 149 (.mv (.t 20)),
     S 150 (.mv (.t 21)),
     S 151 (.bin .lss .none (.t 149) (.t 150))])
   (.cond (.t 151)
    (.skip)
    (.exit 8)))
   (.block 9 (.seq (.ops [S 152 (.mv (.t 20)),
      S 153 (.mv (.t 21)),
      S 154 (.bin .add .none (.t 152) (.t 153)),
      S 155 (.conv .u64 (.t 154)),
      S 156 (.bin .shr .none (.t 155) (.v (.p (.int .u64 1)))),
      S 157 (.conv .i64 (.t 156)),
      S 23 (.mv (.t 157))])
    (.seq (.ops [S 158 (.mv (.t 4)),
      S 159 (.mv (.t 0)),
      S 160 (.mv (.t 22)),
      S 161 (.mv (.t 23)),
      S 162 (.bin .sub .none (.t 160) (.t 161)),
      S 163 (.ixa 2 (.t 159) (.t 162)),
      S 164 (.ld true 2 (.t 163)),
      S 165 (.mv (.t 0)),
      S 166 (.mv (.t 23)),
      S 167 (.ixa 2 (.t 165) (.t 166)),
      S 168 (.ld true 2 (.t 167)),
      S 169 (.callv (.t 158) [(.t 164), (.t 168)]),
      S 170 (.bin .lss .none (.t 169) (xI 0)),
      S 171 (.un .not (.t 170))])
    (.cond (.t 171)
     (.ops [S 172 (.mv (.t 23)),
       S 173 (.bin .add .none (.t 172) (xI 1)),
       S 20 (.mv (.t 173))])
     (.ops [S 174 (.mv (.t 23)),
       S 21 (.mv (.t 174))]))))))))
 (.seq (.ops [S 175 (.mv (.t 19)),
   S 176 (.mv (.t 20)),
   S 177 (.bin .sub .none (.t 175) (.t 176)),
   S 24 (.mv (.t 177))])
 (.seq (.seq (.ops [S 178 (.mv (.t 20)),
   S 179 (.mv (.t 2)),
   S 180 (.bin .lss .none (.t 178) (.t 179)),
   S 181 (.mv (.t 180)),
   ⟨(some 182), .mv (.t 2), (some (181, true)), []⟩,
   ⟨(some 183), .mv (.t 24), (some (181, true)), []⟩,
   ⟨(some 184), .bin .lss .none (.t 182) (.t 183), (some (181, true)), []⟩,
   S 185 (.pick (.t 181) (.t 184) (xB false))])
 (.cond (.t 185)
  (.ops [S 186 (.mv (.t 0)),
    S 187 (.mv (.t 20)),
    S 188 (.mv (.t 2)),
    S 189 (.mv (.t 24)),
    S 190 (.mv (.t 4)),
    S 191 (.call n_slices_rotateCmpFunc [(.t 186), (.t 187), (.t 188), (.t 189), (.t 190)])])
  (.skip)))
 (.seq (.seq (.ops [S 192 (.mv (.t 1)),
   S 193 (.mv (.t 20)),
   S 194 (.bin .lss .none (.t 192) (.t 193)),
   S 195 (.mv (.t 194)),
   ⟨(some 196), .mv (.t 20), (some (195, true)), []⟩,
   ⟨(some 197), .mv (.t 18), (some (195, true)), []⟩,
   ⟨(some 198), .bin .lss .none (.t 196) (.t 197), (some (195, true)), []⟩,
   S 199 (.pick (.t 195) (.t 198) (xB false))])
 (.cond (.t 199)
  (.ops [S 200 (.mv (.t 0)),
    S 201 (.mv (.t 1)),
    S 202 (.mv (.t 20)),
    S 203 (.mv (.t 18)),
    S 204 (.mv (.t 4)),
    S 205 (.call n_slices_symMergeCmpFunc [(.t 200), (.t 201), (.t 202), (.t 203), (.t 204)])])
  (.skip)))
 (.seq (.ops [S 206 (.mv (.t 18)),
   S 207 (.mv (.t 24)),
   S 208 (.bin .lss .none (.t 206) (.t 207)),
   S 209 (.mv (.t 208)),
   ⟨(some 210), .mv (.t 24), (some (209, true)), []⟩,
   ⟨(some 211), .mv (.t 3), (some (209, true)), []⟩,
   ⟨(some 212), .bin .lss .none (.t 210) (.t 211), (some (209, true)), []⟩,
   S 213 (.pick (.t 209) (.t 212) (xB false))])
 (.cond (.t 213)
  (.ops [S 214 (.mv (.t 0)),
    S 215 (.mv (.t 18)),
    S 216 (.mv (.t 24)),
    S 217 (.mv (.t 3)),
    S 218 (.mv (.t 4)),
    S 219 (.call n_slices_symMergeCmpFunc [(.t 214), (.t 215), (.t 216), (.t 217), (.t 218)])])
  (.skip))))))))))))),
 [], false, false, false⟩
/- slices.insertionSortCmpFunc[sibyl/api.Ref] -/
def d_slices_insertionSortCmpFunc_69 : DFn := ⟨4,
 .seq (.ops [S 10 (.mv (.t 1)),
   S 11 (.bin .add .none (.t 10) (xI 1)),
   S 8 (.mv (.t 11))])
 (.block 0 (.loop [0, 1, 2, 3, 8] (.seq (.seq (.ops [S 12 (.mv (.t 8)),
     S 13 (.mv (.t 2)),
     S 14 (.bin .lss .none (.t 12) (.t 13))])
   (.cond (.t 14)
    (.skip)
    (.exit 0)))
   (.seq (.block 1 (.seq (.ops [S 17 (.mv (.t 8)),
      S 9 (.mv (.t 17))])
    (.block 2 (.loop [0, 1, 2, 3, 8, 9] (.seq (.seq (.ops [S 18 (.mv (.t 9)),
        S 19 (.mv (.t 1)),
        S 20 (.bin .gtr .none (.t 18) (.t 19)),
        S 21 (.mv (.t 20)),
        ⟨(some 22), .mv (.t 3), (some (21, true)), []⟩,
        ⟨(some 23), .mv (.t 0), (some (21, true)), []⟩,
        ⟨(some 24), .mv (.t 9), (some (21, true)), []⟩,
        ⟨(some 25), .ixa 2 (.t 23) (.t 24), (some (21, true)), []⟩,
        ⟨(some 26), .ld true 2 (.t 25), (some (21, true)), []⟩,
        ⟨(some 27), .mv (.t 0), (some (21, true)), []⟩,
        ⟨(some 28), .mv (.t 9), (some (21, true)), []⟩,
        ⟨(some 29), .bin .sub .none (.t 28) (xI 1), (some (21, true)), []⟩,
        ⟨(some 30), .ixa 2 (.t 27) (.t 29), (some (21, true)), []⟩,
        ⟨(some 31), .ld true 2 (.t 30), (some (21, true)), []⟩,
        ⟨(some 32), .callv (.t 22) [(.t 26), (.t 31)], (some (21, true)), []⟩,
        ⟨(some 33), .bin .lss .none (.t 32) (xI 0), (some (21, true)), []⟩,
        S 34 (.pick (.t 21) (.t 33) (xB false))])
      (.cond (.t 34)
       (.skip)
       (.exit 2)))
      (.seq (.block 3 (.ops [S 37 (.mv (.t 0)),
         S 38 (.mv (.t 9)),
         S 39 (.mv (.t 0)),
         S 40 (.mv (.t 9)),
         S 41 (.bin .sub .none (.t 40) (xI 1)),
         S 42 (.mv (.t 0)),
         S 43 (.mv (.t 9)),
         S 44 (.bin .sub .none (.t 43) (xI 1)),
         S 45 (.ixa 2 (.t 42) (.t 44)),
         S 46 (.ld true 2 (.t 45)),
         S 47 (.mv (.t 0)),
         S 48 (.mv (.t 9)),
         S 49 (.ixa 2 (.t 47) (.t 48)),
         S 50 (.ld true 2 (.t 49)),
         S 51 (.ixa 2 (.t 37) (.t 38)),
         E (.st 2 (.t 51) (.t 46)),
         S 52 (.ixa 2 (.t 39) (.t 41)),
         E (.st 2 (.t 52) (.t 50))]))
      (.ops [S 35 (.mv (.t 9)),
        S 36 (.bin .sub .none (.t 35) (xI 1)),
        S 9 (.mv (.t 36))])))))))
   (.ops [S 15 (.mv (.t 8)),
     S 16 (.bin .add .none (.t 15) (xI 1)),
     S 8 (.mv (.t 16))]))))),
 [], false, false, false⟩
/- slices.heapSortCmpFunc[sibyl/api.Ref] -/
def d_slices_heapSortCmpFunc : DFn := ⟨4,
 .seq (.ops [S 13 (.mv (.t 1)),
   S 8 (.mv (.t 13))])
 (.seq (.ops [S 9 (.mv (xI 0))])
 (.seq (.ops [S 14 (.mv (.t 2)),
   S 15 (.mv (.t 1)),
   S 16 (.bin .sub .none (.t 14) (.t 15)),
   S 10 (.mv (.t 16))])
 (.seq (.seq (.ops [S 17 (.mv (.t 10)),
   S 18 (.bin .sub .none (.t 17) (xI 1)),
   S 19 (.bin .quo .none (.t 18) (xI 2)),
   S 11 (.mv (.t 19))])
 (.block 0 (.loop [0, 3, 8, 9, 10, 11] (.seq (.seq (.ops [S 20 (.mv (.t 11)),
     S 21 (.bin .geq .none (.t 20) (xI 0))])
   (.cond (.t 21)
    (.skip)
    (.exit 0)))
   (.seq (.block 1 (.ops [S 24 (.mv (.t 0)),
      S 25 (.mv (.t 11)),
      S 26 (.mv (.t 10)),
      S 27 (.mv (.t 8)),
      S 28 (.mv (.t 3)),
      S 29 (.call n_slices_siftDownCmpFunc [(.t 24), (.t 25), (.t 26), (.t 27), (.t 28)])]))
   (.ops [S 22 (.mv (.t 11)),
     S 23 (.bin .sub .none (.t 22) (xI 1)),
     S 11 (.mv (.t 23))]))))))
 (.seq (.ops [S 30 (.mv (.t 10)),
   S 31 (.bin .sub .none (.t 30) (xI 1)),
   S 12 (.mv (.t 31))])
 (.block 2 (.loop [0, 3, 8, 9, 12] (.seq (.seq (.ops [S 32 (.mv (.t 12)),
     S 33 (.bin .geq .none (.t 32) (xI 0))])
   (.cond (.t 33)
    (.skip)
    (.exit 2)))
   (.seq (.block 3 (.seq (.ops [S 36 (.mv (.t 0)),
      S 37 (.mv (.t 8)),
      S 38 (.mv (.t 0)),
      S 39 (.mv (.t 8)),
      S 40 (.mv (.t 12)),
      S 41 (.bin .add .none (.t 39) (.t 40)),
      S 42 (.mv (.t 0)),
      S 43 (.mv (.t 8)),
      S 44 (.mv (.t 12)),
      S 45 (.bin .add .none (.t 43) (.t 44)),
      S 46 (.ixa 2 (.t 42) (.t 45)),
      S 47 (.ld true 2 (.t 46)),
      S 48 (.mv (.t 0)),
      S 49 (.mv (.t 8)),
      S 50 (.ixa 2 (.t 48) (.t 49)),
      S 51 (.ld true 2 (.t 50)),
      S 52 (.ixa 2 (.t 36) (.t 37)),
      E (.st 2 (.t 52) (.t 47)),
      S 53 (.ixa 2 (.t 38) (.t 41)),
      E (.st 2 (.t 53) (.t 51))])
    (.ops [S 54 (.mv (.t 0)),
      S 55 (.mv (.t 9)),
      S 56 (.mv (.t 12)),
      S 57 (.mv (.t 8)),
      S 58 (.mv (.t 3)),
      S 59 (.call n_slices_siftDownCmpFunc [(.t 54), (.t 55), (.t 56), (.t 57), (.t 58)])])))
   (.ops [S 34 (.mv (.t 12)),
     S 35 (.bin .sub .none (.t 34) (xI 1)),
     S 12 (.mv (.t 35))]))))))))),
 [], false, false, false⟩
/- slices.breakPatternsCmpFunc[sibyl/api.Ref] -/
def d_slices_breakPatternsCmpFunc : DFn := ⟨4,
 .seq (.ops [S 13 (.mv (.t 2)),
   S 14 (.mv (.t 1)),
   S 15 (.bin .sub .none (.t 13) (.t 14)),
   S 8 (.mv (.t 15))])
 (.seq (.ops [S 16 (.mv (.t 8)),
   S 17 (.bin .geq .none (.t 16) (xI 8))])
 (.cond (.t 17)
  (.seq (.ops [S 18 (.mv (.t 8)),
    S 19 (.conv .u64 (.t 18)),
    S 9 (.new false [(.p (.int .u64 0))]),
    E (.st 1 (.t 9) (.t 19))])
  (.seq (.ops [S 20 (.mv (.t 8)),
    S 21 (.call n_slices_nextPowerOfTwo [(.t 20)]),
    S 10 (.mv (.t 21))])
  (.seq (.ops [S 22 (.mv (.t 1)),
    S 23 (.mv (.t 8)),
    S 24 (.bin .quo .none (.t 23) (xI 4)),
    S 25 (.bin .mul .none (.t 24) (xI 2)),
    S 26 (.bin .add .none (.t 22) (.t 25)),
    S 27 (.bin .sub .none (.t 26) (xI 1)),
    S 11 (.mv (.t 27))])
  (.block 0 (.loop [0, 1, 8, 9, 10, 11] (.seq (.seq (.ops [S 28 (.mv (.t 11)),
      S 29 (.mv (.t 1)),
      S 30 (.mv (.t 8)),
      S 31 (.bin .quo .none (.t 30) (xI 4)),
      S 32 (.bin .mul .none (.t 31) (xI 2)),
      S 33 (.bin .add .none (.t 29) (.t 32)),
      S 34 (.bin .add .none (.t 33) (xI 1)),
      S 35 (.bin .leq .none (.t 28) (.t 34))])
    (.cond (.t 35)
     (.skip)
     (.exit 0)))
    (.seq (.block 1 (.seq (.ops [S 38 (.call n_slices_xorshift_Next [(.t 9)]),
       S 39 (.mv (.t 10)),
       S 40 (.bin .sub .none (.t 39) (.v (.p (.int .u64 1)))),
       S 41 (.bin .and .none (.t 38) (.t 40)),
       S 42 (.conv .i64 (.t 41)),
       S 12 (.mv (.t 42))])
     (.seq (.seq (.ops [S 43 (.mv (.t 12)),
       S 44 (.mv (.t 8)),
       S 45 (.bin .geq .none (.t 43) (.t 44))])
     (.cond (.t 45)
      (.ops [S 46 (.mv (.t 12)),
        S 47 (.mv (.t 8)),
        S 48 (.bin .sub .none (.t 46) (.t 47)),
        S 12 (.mv (.t 48))])
      (.skip)))
     (.ops [S 49 (.mv (.t 0)),
       S 50 (.mv (.t 11)),
       S 51 (.mv (.t 0)),
       S 52 (.mv (.t 1)),
       S 53 (.mv (.t 12)),
       S 54 (.bin .add .none (.t 52) (.t 53)),
       S 55 (.mv (.t 0)),
       S 56 (.mv (.t 1)),
       S 57 (.mv (.t 12)),
       S 58 (.bin .add .none (.t 56) (.t 57)),
       S 59 (.ixa 2 (.t 55) (.t 58)),
       S 60 (.ld true 2 (.t 59)),
       S 61 (.mv (.t 0)),
       S 62 (.mv (.t 11)),
       S 63 (.ixa 2 (.t 61) (.t 62)),
       S 64 (.ld true 2 (.t 63)),
       S 65 (.ixa 2 (.t 49) (.t 50)),
       E (.st 2 (.t 65) (.t 60)),
       S 66 (.ixa 2 (.t 51) (.t 54)),
       E (.st 2 (.t 66) (.t 64))]))))
    (.ops [S 36 (.mv (.t 11)),
      S 37 (.bin .add .none (.t 36) (xI 1)),
      S 11 (.mv (.t 37))]))))))))
  (.skip))),
 [], false, false, false⟩
/- slices.choosePivotCmpFunc[sibyl/api.Ref] -/
def d_slices_choosePivotCmpFunc : DFn := ⟨4,
 .seq (.ops [S 8 (.mv (xI 0)),
   S 9 (.mv (xI 0))])
 (.seq (.ops [S 15 (.mv (.t 2)),
   S 16 (.mv (.t 1)),
   S 17 (.bin .sub .none (.t 15) (.t 16)),
   S 10 (.mv (.t 17))])
 (.seq (.ops [S 11 (.new false [(eI 0)])])
 (.seq (.ops [S 18 (.mv (.t 1)),
   S 19 (.mv (.t 10)),
   S 20 (.bin .quo .none (.t 19) (xI 4)),
   S 21 (.bin .mul .none (.t 20) (xI 1)),
   S 22 (.bin .add .none (.t 18) (.t 21)),
   S 12 (.mv (.t 22))])
 (.seq (.ops [S 23 (.mv (.t 1)),
   S 24 (.mv (.t 10)),
   S 25 (.bin .quo .none (.t 24) (xI 4)),
   S 26 (.bin .mul .none (.t 25) (xI 2)),
   S 27 (.bin .add .none (.t 23) (.t 26)),
   S 13 (.mv (.t 27))])
 (.seq (.ops [S 28 (.mv (.t 1)),
   S 29 (.mv (.t 10)),
   S 30 (.bin .quo .none (.t 29) (xI 4)),
   S 31 (.bin .mul .none (.t 30) (xI 3)),
   S 32 (.bin .add .none (.t 28) (.t 31)),
   S 14 (.mv (.t 32))])
 (.seq (.seq (.ops [S 33 (.mv (.t 10)),
   S 34 (.bin .geq .none (.t 33) (xI 8))])
 (.cond (.t 34)
  (.seq (.seq (.ops [S 35 (.mv (.t 10)),
    S 36 (.bin .geq .none (.t 35) (xI 50))])
  (.cond (.t 36)
   (.seq (.ops [S 37 (.mv (.t 0)),
     S 38 (.mv (.t 12)),
     S 39 (.mv (.t 3)),
     S 40 (.call n_slices_medianAdjacentCmpFunc [(.t 37), (.t 38), (.t 11), (.t 39)]),
     S 12 (.mv (.t 40))])
   (.seq (.ops [S 41 (.mv (.t 0)),
     S 42 (.mv (.t 13)),
     S 43 (.mv (.t 3)),
     S 44 (.call n_slices_medianAdjacentCmpFunc [(.t 41), (.t 42), (.t 11), (.t 43)]),
     S 13 (.mv (.t 44))])
   (.ops [S 45 (.mv (.t 0)),
     S 46 (.mv (.t 14)),
     S 47 (.mv (.t 3)),
     S 48 (.call n_slices_medianAdjacentCmpFunc [(.t 45), (.t 46), (.t 11), (.t 47)]),
     S 14 (.mv (.t 48))])))
   (.skip)))
  (.ops [S 49 (.mv (.t 0)),
    S 50 (.mv (.t 12)),
    S 51 (.mv (.t 13)),
    S 52 (.mv (.t 14)),
    S 53 (.mv (.t 3)),
    S 54 (.call n_slices_medianCmpFunc [(.t 49), (.t 50), (.t 51), (.t 52), (.t 11), (.t 53)]),
    S 13 (.mv (.t 54))]))
  (.skip)))
 (.seq (.ops [S 55 (.ld false 1 (.t 11))])
 (.block 0 (.seq (.ops [S 58 (.bin .eql .none (.t 55) (xI 0)),
    S 57 (.mv (.t 58))])
  (.cond (.t 57)
   (.seq (.ops [S 59 (.mv (.t 13)),
     S 8 (.mv (.t 59)),
     S 9 (.mv (xI 1))])
   (.ret))
   (.seq (.ops [S 61 (.bin .eql .none (.t 55) (xI 12)),
     S 60 (.mv (.t 61))])
   (.cond (.t 60)
    (.seq (.ops [S 62 (.mv (.t 13)),
      S 8 (.mv (.t 62)),
      S 9 (.mv (xI 2))])
    (.ret))
    (.seq (.ops [S 56 (.mv (.t 13)),
      S 8 (.mv (.t 56)),
      S 9 (.mv (xI 0))])
    (.ret)))))))))))))),
 [.tmp 8, .tmp 9], false, false, false⟩
/- slices.reverseRangeCmpFunc[sibyl/api.Ref] -/
def d_slices_reverseRangeCmpFunc : DFn := ⟨4,
 .seq (.ops [S 10 (.mv (.t 1)),
   S 8 (.mv (.t 10))])
 (.seq (.ops [S 11 (.mv (.t 2)),
   S 12 (.bin .sub .none (.t 11) (xI 1)),
   S 9 (.mv (.t 12))])
 (.block 0 (.loop [0, 8, 9] (.seq (.seq (.ops [S 13 (.mv (.t 8)),
     S 14 (.mv (.t 9)),
     S 15 (.bin .lss .none (.t 13) (.t 14))])
   (.cond (.t 15)
    (.skip)
    (.exit 0)))
   (.block 1 (.seq (.ops [S 16 (.mv (.t 0)),
      S 17 (.mv (.t 8)),
      S 18 (.mv (.t 0)),
      S 19 (.mv (.t 9)),
      S 20 (.mv (.t 0)),
      S 21 (.mv (.t 9)),
      S 22 (.ixa 2 (.t 20) (.t 21)),
      S 23 (.ld true 2 (.t 22)),
      S 24 (.mv (.t 0)),
      S 25 (.mv (.t 8)),
      S 26 (.ixa 2 (.t 24) (.t 25)),
      S 27 (.ld true 2 (.t 26)),
      S 28 (.ixa 2 (.t 16) (.t 17)),
      E (.st 2 (.t 28) (.t 23)),
      S 29 (.ixa 2 (.t 18) (.t 19)),
      E (.st 2 (.t 29) (.t 27))])
    (.seq (.ops [S 30 (.mv (.t 8)),
      S 31 (.bin .add .none (.t 30) (xI 1)),
      S 8 (.mv (.t 31))])
    (.ops [S 32 (.mv (.t 9)),
      S 33 (.bin .sub .none (.t 32) (xI 1)),
      S 9 (.mv (.t 33))])))))))),
 [], false, false, false⟩
/- slices.partialInsertionSortCmpFunc[sibyl/api.Ref] -/
def d_slices_partialInsertionSortCmpFunc : DFn := ⟨4,
 .seq (.ops [S 8 (.mv (xB false))])
 (.seq (.ops [S 13 (.mv (.t 1)),
   S 14 (.bin .add .none (.t 13) (xI 1)),
   S 9 (.mv (.t 14))])
 (.seq (.seq (.ops [S 10 (.mv (xI 0))])
 (.block 0 (.loop [0, 1, 2, 3, 9, 10] (.seq (.seq (.ops [S 15 (.mv (.t 10)),
     S 16 (.bin .lss .none (.t 15) (xI 5))])
   (.cond (.t 16)
    (.skip)
    (.exit 0)))
   (.seq (.block 1 (.seq (.block 2 (.loop [0, 1, 2, 3, 9, 10] (.seq (.seq (.ops [S 19 (.mv (.t 9)),
        S 20 (.mv (.t 2)),
        S 21 (.bin .lss .none (.t 19) (.t 20)),
        S 22 (.mv (.t 21)),
        ⟨(some 23), .mv (.t 3), (some (22, true)), []⟩,
        ⟨(some 24), .mv (.t 0), (some (22, true)), []⟩,
        ⟨(some 25), .mv (.t 9), (some (22, true)), []⟩,
        ⟨(some 26), .ixa 2 (.t 24) (.t 25), (some (22, true)), []⟩,
        ⟨(some 27), .ld true 2 (.t 26), (some (22, true)), []⟩,
        ⟨(some 28), .mv (.t 0), (some (22, true)), []⟩,
        ⟨(some 29), .mv (.t 9), (some (22, true)), []⟩,
        ⟨(some 30), .bin .sub .none (.t 29) (xI 1), (some (22, true)), []⟩,
        ⟨(some 31), .ixa 2 (.t 28) (.t 30), (some (22, true)), []⟩,
        ⟨(some 32), .ld true 2 (.t 31), (some (22, true)), []⟩,
        ⟨(some 33), .callv (.t 23) [(.t 27), (.t 32)], (some (22, true)), []⟩,
        ⟨(some 34), .bin .lss .none (.t 33) (xI 0), (some (22, true)), []⟩,
        ⟨(some 35), .un .not (.t 34), (some (22, true)), []⟩,
        S 36 (.pick (.t 22) (.t 35) (xB false))])
      (.cond (.t 36)
       (.skip)
       (.exit 2)))
      (.block 3 (.ops [S 37 (.mv (.t 9)),
         S 38 (.bin .add .none (.t 37) (xI 1)),
         S 9 (.mv (.t 38))])))))
    (.seq (.seq (.ops [S 39 (.mv (.t 9)),
      S 40 (.mv (.t 2)),
      S 41 (.bin .eql .none (.t 39) (.t 40))])
    (.cond (.t 41)
     (.seq (.ops [S 8 (.mv (xB true))])
     (.ret))
     (.skip)))
    (.seq (.seq (.ops [S 42 (.mv (.t 2)),
      S 43 (.mv (.t 1)),
      S 44 (.bin .sub .none (.t 42) (.t 43)),
      S 45 (.bin .lss .none (.t 44) (xI 50))])
    (.cond (.t 45)
     (.seq (.ops [S 8 (.mv (xB false))])
     (.ret))
     (.skip)))
    (.seq (.ops [S 46 (.mv (.t 0)),
      S 47 (.mv (.t 9)),
      S 48 (.mv (.t 0)),
      S 49 (.mv (.t 9)),
      S 50 (.bin .sub .none (.t 49) (xI 1)),
      S 51 (.mv (.t 0)),
      S 52 (.mv (.t 9)),
      S 53 (.bin .sub .none (.t 52) (xI 1)),
      S 54 (.ixa 2 (.t 51) (.t 53)),
      S 55 (.ld true 2 (.t 54)),
      S 56 (.mv (.t 0)),
      S 57 (.mv (.t 9)),
      S 58 (.ixa 2 (.t 56) (.t 57)),
      S 59 (.ld true 2 (.t 58)),
      S 60 (.ixa 2 (.t 46) (.t 47)),
      E (.st 2 (.t 60) (.t 55)),
      S 61 (.ixa 2 (.t 48) (.t 50)),
      E (.st 2 (.t 61) (.t 59))])
    (.seq (.seq (.ops [S 62 (.mv (.t 9)),
      S 63 (.mv (.t 1)),
      S 64 (.bin .sub .none (.t 62) (.t 63)),
      S 65 (.bin .geq .none (.t 64) (xI 2))])
    (.cond (.t 65)
     (.seq (.ops [S 66 (.mv (.t 9)),
       S 67 (.bin .sub .none (.t 66) (xI 1)),
       S 11 (.mv (.t 67))])
     (.block 4 (.loop [0, 1, 2, 3, 9, 10, 11] (.seq (.seq (.ops [S 68 (.mv (.t 11)),
         S 69 (.bin .geq .none (.t 68) (xI 1))])
       (.cond (.t 69)
        (.skip)
        (.exit 4)))
       (.seq (.block 5 (.seq (.seq (.ops [S 72 (.mv (.t 3)),
          S 73 (.mv (.t 0)),
          S 74 (.mv (.t 11)),
          S 75 (.ixa 2 (.t 73) (.t 74)),
          S 76 (.ld true 2 (.t 75)),
          S 77 (.mv (.t 0)),
          S 78 (.mv (.t 11)),
          S 79 (.bin .sub .none (.t 78) (xI 1)),
          S 80 (.ixa 2 (.t 77) (.t 79)),
          S 81 (.ld true 2 (.t 80)),
          S 82 (.callv (.t 72) [(.t 76), (.t 81)]),
          S 83 (.bin .lss .none (.t 82) (xI 0)),
          S 84 (.un .not (.t 83))])
        (.cond (.t 84)
         (.exit 4)
         (.skip)))
        (.ops [S 85 (.mv (.t 0)),
          S 86 (.mv (.t 11)),
          S 87 (.mv (.t 0)),
          S 88 (.mv (.t 11)),
          S 89 (.bin .sub .none (.t 88) (xI 1)),
          S 90 (.mv (.t 0)),
          S 91 (.mv (.t 11)),
          S 92 (.bin .sub .none (.t 91) (xI 1)),
          S 93 (.ixa 2 (.t 90) (.t 92)),
          S 94 (.ld true 2 (.t 93)),
          S 95 (.mv (.t 0)),
          S 96 (.mv (.t 11)),
          S 97 (.ixa 2 (.t 95) (.t 96)),
          S 98 (.ld true 2 (.t 97)),
          S 99 (.ixa 2 (.t 85) (.t 86)),
          E (.st 2 (.t 99) (.t 94)),
          S 100 (.ixa 2 (.t 87) (.t 89)),
          E (.st 2 (.t 100) (.t 98))])))
       (.ops [S 70 (.mv (.t 11)),
         S 71 (.bin .sub .none (.t 70) (xI 1)),
         S 11 (.mv (.t 71))]))))))
     (.skip)))
    (.seq (.ops [S 101 (.mv (.t 2)),
      S 102 (.mv (.t 9)),
      S 103 (.bin .sub .none (.t 101) (.t 102)),
      S 104 (.bin .geq .none (.t 103) (xI 2))])
    (.cond (.t 104)
     (.seq (.ops [S 105 (.mv (.t 9)),
       S 106 (.bin .add .none (.t 105) (xI 1)),
       S 12 (.mv (.t 106))])
     (.block 6 (.loop [0, 1, 2, 3, 9, 10, 12] (.seq (.seq (.ops [S 107 (.mv (.t 12)),
         S 108 (.mv (.t 2)),
         S 109 (.bin .lss .none (.t 107) (.t 108))])
       (.cond (.t 109)
        (.skip)
        (.exit 6)))
       (.seq (.block 7 (.seq (.seq (.ops [S 112 (.mv (.t 3)),
          S 113 (.mv (.t 0)),
          S 114 (.mv (.t 12)),
          S 115 (.ixa 2 (.t 113) (.t 114)),
          S 116 (.ld true 2 (.t 115)),
          S 117 (.mv (.t 0)),
          S 118 (.mv (.t 12)),
          S 119 (.bin .sub .none (.t 118) (xI 1)),
          S 120 (.ixa 2 (.t 117) (.t 119)),
          S 121 (.ld true 2 (.t 120)),
          S 122 (.callv (.t 112) [(.t 116), (.t 121)]),
          S 123 (.bin .lss .none (.t 122) (xI 0)),
          S 124 (.un .not (.t 123))])
        (.cond (.t 124)
         (.exit 6)
         (.skip)))
        (.ops [S 125 (.mv (.t 0)),
          S 126 (.mv (.t 12)),
          S 127 (.mv (.t 0)),
          S 128 (.mv (.t 12)),
          S 129 (.bin .sub .none (.t 128) (xI 1)),
          S 130 (.mv (.t 0)),
          S 131 (.mv (.t 12)),
          S 132 (.bin .sub .none (.t 131) (xI 1)),
          S 133 (.ixa 2 (.t 130) (.t 132)),
          S 134 (.ld true 2 (.t 133)),
          S 135 (.mv (.t 0)),
          S 136 (.mv (.t 12)),
          S 137 (.ixa 2 (.t 135) (.t 136)),
          S 138 (.ld true 2 (.t 137)),
          S 139 (.ixa 2 (.t 125) (.t 126)),
          E (.st 2 (.t 139) (.t 134)),
          S 140 (.ixa 2 (.t 127) (.t 129)),
          E (.st 2 (.t 140) (.t 138))])))
       (.ops [S 110 (.mv (.t 12)),
         S 111 (.bin .add .none (.t 110) (xI 1)),
         S 12 (.mv (.t 111))]))))))
     (.skip)))))))))
   (.ops [S 17 (.mv (.t 10)),
     S 18 (.bin .add .none (.t 17) (xI 1)),
     S 10 (.mv (.t 18))]))))))
 (.seq (.ops [S 8 (.mv (xB false))])
 (.ret)))),
 [.tmp 8], false, false, false⟩
/- slices.partitionEqualCmpFunc[sibyl/api.Ref] -/
def d_slices_partitionEqualCmpFunc : DFn := ⟨5,
 .seq (.ops [S 10 (.mv (xI 0))])
 (.seq (.ops [S 13 (.mv (.t 0)),
   S 14 (.mv (.t 1)),
   S 15 (.mv (.t 0)),
   S 16 (.mv (.t 3)),
   S 17 (.mv (.t 0)),
   S 18 (.mv (.t 3)),
   S 19 (.ixa 2 (.t 17) (.t 18)),
   S 20 (.ld true 2 (.t 19)),
   S 21 (.mv (.t 0)),
   S 22 (.mv (.t 1)),
   S 23 (.ixa 2 (.t 21) (.t 22)),
   S 24 (.ld true 2 (.t 23)),
   S 25 (.ixa 2 (.t 13) (.t 14)),
   E (.st 2 (.t 25) (.t 20)),
   S 26 (.ixa 2 (.t 15) (.t 16)),
   E (.st 2 (.t 26) (.t 24))])
 (.seq (.ops [S 27 (.mv (.t 1)),
   S 28 (.bin .add .none (.t 27) (xI 1)),
   S 29 (.mv (.t 2)),
   S 30 (.bin .sub .none (.t 29) (xI 1)),
   S 11 (.mv (.t 28)),
   S 12 (.mv (.t 30))])
 (.seq (.block 0 (.loop [0, 1, 4, 11, 12] (.block 1 (.seq (.block 2 (.loop [0, 1, 4, 11, 12] (.seq (.seq (.ops [S 31 (.mv (.t 11)),
        S 32 (.mv (.t 12)),
        S 33 (.bin .leq .none (.t 31) (.t 32)),
        S 34 (.mv (.t 33)),
        ⟨(some 35), .mv (.t 4), (some (34, true)), []⟩,
        ⟨(some 36), .mv (.t 0), (some (34, true)), []⟩,
        ⟨(some 37), .mv (.t 1), (some (34, true)), []⟩,
        ⟨(some 38), .ixa 2 (.t 36) (.t 37), (some (34, true)), []⟩,
        ⟨(some 39), .ld true 2 (.t 38), (some (34, true)), []⟩,
        ⟨(some 40), .mv (.t 0), (some (34, true)), []⟩,
        ⟨(some 41), .mv (.t 11), (some (34, true)), []⟩,
        ⟨(some 42), .ixa 2 (.t 40) (.t 41), (some (34, true)), []⟩,
        ⟨(some 43), .ld true 2 (.t 42), (some (34, true)), []⟩,
        ⟨(some 44), .callv (.t 35) [(.t 39), (.t 43)], (some (34, true)), []⟩,
        ⟨(some 45), .bin .lss .none (.t 44) (xI 0), (some (34, true)), []⟩,
        ⟨(some 46), .un .not (.t 45), (some (34, true)), []⟩,
        S 47 (.pick (.t 34) (.t 46) (xB false))])
      (.cond (.t 47)
       (.skip)
       (.exit 2)))
      (.block 3 (.ops [S 48 (.mv (.t 11)),
         S 49 (.bin .add .none (.t 48) (xI 1)),
         S 11 (.mv (.t 49))])))))
    (.seq (.block 4 (.loop [0, 1, 4, 11, 12] (.seq (.seq (.ops [S 50 (.mv (.t 11)),
        S 51 (.mv (.t 12)),
        S 52 (.bin .leq .none (.t 50) (.t 51)),
        S 53 (.mv (.t 52)),
        ⟨(some 54), .mv (.t 4), (some (53, true)), []⟩,
        ⟨(some 55), .mv (.t 0), (some (53, true)), []⟩,
        ⟨(some 56), .mv (.t 1), (some (53, true)), []⟩,
        ⟨(some 57), .ixa 2 (.t 55) (.t 56), (some (53, true)), []⟩,
        ⟨(some 58), .ld true 2 (.t 57), (some (53, true)), []⟩,
        ⟨(some 59), .mv (.t 0), (some (53, true)), []⟩,
        ⟨(some 60), .mv (.t 12), (some (53, true)), []⟩,
        ⟨(some 61), .ixa 2 (.t 59) (.t 60), (some (53, true)), []⟩,
        ⟨(some 62), .ld true 2 (.t 61), (some (53, true)), []⟩,
        ⟨(some 63), .callv (.t 54) [(.t 58), (.t 62)], (some (53, true)), []⟩,
        ⟨(some 64), .bin .lss .none (.t 63) (xI 0), (some (53, true)), []⟩,
        S 65 (.pick (.t 53) (.t 64) (xB false))])
      (.cond (.t 65)
       (.skip)
       (.exit 4)))
      (.block 5 (.ops [S 66 (.mv (.t 12)),
         S 67 (.bin .sub .none (.t 66) (xI 1)),
         S 12 (.mv (.t 67))])))))
    (.seq (.seq (.ops [S 68 (.mv (.t 11)),
      S 69 (.mv (.t 12)),
      S 70 (.bin .gtr .none (.t 68) (.t 69))])
    (.cond (.t 70)
     (.exit 0)
     (.skip)))
    (.seq (.ops [S 71 (.mv (.t 0)),
      S 72 (.mv (.t 11)),
      S 73 (.mv (.t 0)),
      S 74 (.mv (.t 12)),
      S 75 (.mv (.t 0)),
      S 76 (.mv (.t 12)),
      S 77 (.ixa 2 (.t 75) (.t 76)),
      S 78 (.ld true 2 (.t 77)),
      S 79 (.mv (.t 0)),
      S 80 (.mv (.t 11)),
      S 81 (.ixa 2 (.t 79) (.t 80)),
      S 82 (.ld true 2 (.t 81)),
      S 83 (.ixa 2 (.t 71) (.t 72)),
      E (.st 2 (.t 83) (.t 78)),
      S 84 (.ixa 2 (.t 73) (.t 74)),
      E (.st 2 (.t 84) (.t 82))])
    (.seq (.ops [S 85 (.mv (.t 11)),
      S 86 (.bin .add .none (.t 85) (xI 1)),
      S 11 (.mv (.t 86))])
    (.ops [S 87 (.mv (.t 12)),
      S 88 (.bin .sub .none (.t 87) (xI 1)),
      S 12 (.mv (.t 88))])))))))))
 (.seq (.ops [S 89 (.mv (.t 11)),
   S 10 (.mv (.t 89))])
 (.ret))))),
 [.tmp 10], false, false, false⟩
/- slices.partitionCmpFunc[sibyl/api.Ref] -/
def d_slices_partitionCmpFunc : DFn := ⟨5,
 .seq (.ops [S 10 (.mv (xI 0)),
   S 11 (.mv (xB false))])
 (.seq (.ops [S 14 (.mv (.t 0)),
   S 15 (.mv (.t 1)),
   S 16 (.mv (.t 0)),
   S 17 (.mv (.t 3)),
   S 18 (.mv (.t 0)),
   S 19 (.mv (.t 3)),
   S 20 (.ixa 2 (.t 18) (.t 19)),
   S 21 (.ld true 2 (.t 20)),
   S 22 (.mv (.t 0)),
   S 23 (.mv (.t 1)),
   S 24 (.ixa 2 (.t 22) (.t 23)),
   S 25 (.ld true 2 (.t 24)),
   S 26 (.ixa 2 (.t 14) (.t 15)),
   E (.st 2 (.t 26) (.t 21)),
   S 27 (.ixa 2 (.t 16) (.t 17)),
   E (.st 2 (.t 27) (.t 25))])
 (.seq (.ops [S 28 (.mv (.t 1)),
   S 29 (.bin .add .none (.t 28) (xI 1)),
   S 30 (.mv (.t 2)),
   S 31 (.bin .sub .none (.t 30) (xI 1)),
   S 12 (.mv (.t 29)),
   S 13 (.mv (.t 31))])
 (.seq (.block 0 (.loop [0, 1, 4, 12, 13] (.seq (.seq (.ops [S 32 (.mv (.t 12)),
     S 33 (.mv (.t 13)),
     S 34 (.bin .leq .none (.t 32) (.t 33)),
     S 35 (.mv (.t 34)),
     ⟨(some 36), .mv (.t 4), (some (35, true)), []⟩,
     ⟨(some 37), .mv (.t 0), (some (35, true)), []⟩,
     ⟨(some 38), .mv (.t 12), (some (35, true)), []⟩,
     ⟨(some 39), .ixa 2 (.t 37) (.t 38), (some (35, true)), []⟩,
     ⟨(some 40), .ld true 2 (.t 39), (some (35, true)), []⟩,
     ⟨(some 41), .mv (.t 0), (some (35, true)), []⟩,
     ⟨(some 42), .mv (.t 1), (some (35, true)), []⟩,
     ⟨(some 43), .ixa 2 (.t 41) (.t 42), (some (35, true)), []⟩,
     ⟨(some 44), .ld true 2 (.t 43), (some (35, true)), []⟩,
     ⟨(some 45), .callv (.t 36) [(.t 40), (.t 44)], (some (35, true)), []⟩,
     ⟨(some 46), .bin .lss .none (.t 45) (xI 0), (some (35, true)), []⟩,
     S 47 (.pick (.t 35) (.t 46) (xB false))])
   (.cond (.t 47)
    (.skip)
    (.exit 0)))
   (.block 1 (.ops [S 48 (.mv (.t 12)),
      S 49 (.bin .add .none (.t 48) (xI 1)),
      S 12 (.mv (.t 49))])))))
 (.seq (.block 2 (.loop [0, 1, 4, 12, 13] (.seq (.seq (.ops [S 50 (.mv (.t 12)),
     S 51 (.mv (.t 13)),
     S 52 (.bin .leq .none (.t 50) (.t 51)),
     S 53 (.mv (.t 52)),
     ⟨(some 54), .mv (.t 4), (some (53, true)), []⟩,
     ⟨(some 55), .mv (.t 0), (some (53, true)), []⟩,
     ⟨(some 56), .mv (.t 13), (some (53, true)), []⟩,
     ⟨(some 57), .ixa 2 (.t 55) (.t 56), (some (53, true)), []⟩,
     ⟨(some 58), .ld true 2 (.t 57), (some (53, true)), []⟩,
     ⟨(some 59), .mv (.t 0), (some (53, true)), []⟩,
     ⟨(some 60), .mv (.t 1), (some (53, true)), []⟩,
     ⟨(some 61), .ixa 2 (.t 59) (.t 60), (some (53, true)), []⟩,
     ⟨(some 62), .ld true 2 (.t 61), (some (53, true)), []⟩,
     ⟨(some 63), .callv (.t 54) [(.t 58), (.t 62)], (some (53, true)), []⟩,
     ⟨(some 64), .bin .lss .none (.t 63) (xI 0), (some (53, true)), []⟩,
     ⟨(some 65), .un .not (.t 64), (some (53, true)), []⟩,
     S 66 (.pick (.t 53) (.t 65) (xB false))])
   (.cond (.t 66)
    (.skip)
    (.exit 2)))
   (.block 3 (.ops [S 67 (.mv (.t 13)),
      S 68 (.bin .sub .none (.t 67) (xI 1)),
      S 13 (.mv (.t 68))])))))
 (.seq (.seq (.ops [S 69 (.mv (.t 12)),
   S 70 (.mv (.t 13)),
   S 71 (.bin .gtr .none (.t 69) (.t 70))])
 (.cond (.t 71)
  (.seq (.ops [S 72 (.mv (.t 0)),
    S 73 (.mv (.t 13)),
    S 74 (.mv (.t 0)),
    S 75 (.mv (.t 1)),
    S 76 (.mv (.t 0)),
    S 77 (.mv (.t 1)),
    S 78 (.ixa 2 (.t 76) (.t 77)),
    S 79 (.ld true 2 (.t 78)),
    S 80 (.mv (.t 0)),
    S 81 (.mv (.t 13)),
    S 82 (.ixa 2 (.t 80) (.t 81)),
    S 83 (.ld true 2 (.t 82)),
    S 84 (.ixa 2 (.t 72) (.t 73)),
    E (.st 2 (.t 84) (.t 79)),
    S 85 (.ixa 2 (.t 74) (.t 75)),
    E (.st 2 (.t 85) (.t 83))])
  (.seq (.ops [S 86 (.mv (.t 13)),
    S 10 (.mv (.t 86)),
    S 11 (.mv (xB true))])
  (.ret)))
  (.skip)))
 (.seq (.ops [S 87 (.mv (.t 0)),
   S 88 (.mv (.t 12)),
   S 89 (.mv (.t 0)),
   S 90 (.mv (.t 13)),
   S 91 (.mv (.t 0)),
   S 92 (.mv (.t 13)),
   S 93 (.ixa 2 (.t 91) (.t 92)),
   S 94 (.ld true 2 (.t 93)),
   S 95 (.mv (.t 0)),
   S 96 (.mv (.t 12)),
   S 97 (.ixa 2 (.t 95) (.t 96)),
   S 98 (.ld true 2 (.t 97)),
   S 99 (.ixa 2 (.t 87) (.t 88)),
   E (.st 2 (.t 99) (.t 94)),
   S 100 (.ixa 2 (.t 89) (.t 90)),
   E (.st 2 (.t 100) (.t 98))])
 (.seq (.ops [S 101 (.mv (.t 12)),
   S 102 (.bin .add .none (.t 101) (xI 1)),
   S 12 (.mv (.t 102))])
 (.seq (.ops [S 103 (.mv (.t 13)),
   S 104 (.bin .sub .none (.t 103) (xI 1)),
   S 13 (.mv (.t 104))])
 (.seq (.block 4 (.loop [0, 1, 4, 12, 13] (.block 5 (.seq (.block 6 (.loop [0, 1, 4, 12, 13] (.seq (.seq (.ops [S 105 (.mv (.t 12)),
        S 106 (.mv (.t 13)),
        S 107 (.bin .leq .none (.t 105) (.t 106)),
        S 108 (.mv (.t 107)),
        ⟨(some 109), .mv (.t 4), (some (108, true)), []⟩,
        ⟨(some 110), .mv (.t 0), (some (108, true)), []⟩,
        ⟨(some 111), .mv (.t 12), (some (108, true)), []⟩,
        ⟨(some 112), .ixa 2 (.t 110) (.t 111), (some (108, true)), []⟩,
        ⟨(some 113), .ld true 2 (.t 112), (some (108, true)), []⟩,
        ⟨(some 114), .mv (.t 0), (some (108, true)), []⟩,
        ⟨(some 115), .mv (.t 1), (some (108, true)), []⟩,
        ⟨(some 116), .ixa 2 (.t 114) (.t 115), (some (108, true)), []⟩,
        ⟨(some 117), .ld true 2 (.t 116), (some (108, true)), []⟩,
        ⟨(some 118), .callv (.t 109) [(.t 113), (.t 117)], (some (108, true)), []⟩,
        ⟨(some 119), .bin .lss .none (.t 118) (xI 0), (some (108, true)), []⟩,
        S 120 (.pick (.t 108) (.t 119) (xB false))])
      (.cond (.t 120)
       (.skip)
       (.exit 6)))
      (.block 7 (.ops [S 121 (.mv (.t 12)),
         S 122 (.bin .add .none (.t 121) (xI 1)),
         S 12 (.mv (.t 122))])))))
    (.seq (.block 8 (.loop [0, 1, 4, 12, 13] (.seq (.seq (.ops [S 123 (.mv (.t 12)),
        S 124 (.mv (.t 13)),
        S 125 (.bin .leq .none (.t 123) (.t 124)),
        S 126 (.mv (.t 125)),
        ⟨(some 127), .mv (.t 4), (some (126, true)), []⟩,
        ⟨(some 128), .mv (.t 0), (some (126, true)), []⟩,
        ⟨(some 129), .mv (.t 13), (some (126, true)), []⟩,
        ⟨(some 130), .ixa 2 (.t 128) (.t 129), (some (126, true)), []⟩,
        ⟨(some 131), .ld true 2 (.t 130), (some (126, true)), []⟩,
        ⟨(some 132), .mv (.t 0), (some (126, true)), []⟩,
        ⟨(some 133), .mv (.t 1), (some (126, true)), []⟩,
        ⟨(some 134), .ixa 2 (.t 132) (.t 133), (some (126, true)), []⟩,
        ⟨(some 135), .ld true 2 (.t 134), (some (126, true)), []⟩,
        ⟨(some 136), .callv (.t 127) [(.t 131), (.t 135)], (some (126, true)), []⟩,
        ⟨(some 137), .bin .lss .none (.t 136) (xI 0), (some (126, true)), []⟩,
        ⟨(some 138), .un .not (.t 137), (some (126, true)), []⟩,
        S 139 (.pick (.t 126) (.t 138) (xB false))])
      (.cond (.t 139)
       (.skip)
       (.exit 8)))
      (.block 9 (.ops [S 140 (.mv (.t 13)),
         S 141 (.bin .sub .none (.t 140) (xI 1)),
         S 13 (.mv (.t 141))])))))
    (.seq (.seq (.ops [S 142 (.mv (.t 12)),
      S 143 (.mv (.t 13)),
      S 144 (.bin .gtr .none (.t 142) (.t 143))])
    (.cond (.t 144)
     (.exit 4)
     (.skip)))
    (.seq (.ops [S 145 (.mv (.t 0)),
      S 146 (.mv (.t 12)),
      S 147 (.mv (.t 0)),
      S 148 (.mv (.t 13)),
      S 149 (.mv (.t 0)),
      S 150 (.mv (.t 13)),
      S 151 (.ixa 2 (.t 149) (.t 150)),
      S 152 (.ld true 2 (.t 151)),
      S 153 (.mv (.t 0)),
      S 154 (.mv (.t 12)),
      S 155 (.ixa 2 (.t 153) (.t 154)),
      S 156 (.ld true 2 (.t 155)),
      S 157 (.ixa 2 (.t 145) (.t 146)),
      E (.st 2 (.t 157) (.t 152)),
      S 158 (.ixa 2 (.t 147) (.t 148)),
      E (.st 2 (.t 158) (.t 156))])
    (.seq (.ops [S 159 (.mv (.t 12)),
      S 160 (.bin .add .none (.t 159) (xI 1)),
      S 12 (.mv (.t 160))])
    (.ops [S 161 (.mv (.t 13)),
      S 162 (.bin .sub .none (.t 161) (xI 1)),
      S 13 (.mv (.t 162))])))))))))
 (.seq (.ops [S 163 (.mv (.t 0)),
   S 164 (.mv (.t 13)),
   S 165 (.mv (.t 0)),
   S 166 (.mv (.t 1)),
   S 167 (.mv (.t 0)),
   S 168 (.mv (.t 1)),
   S 169 (.ixa 2 (.t 167) (.t 168)),
   S 170 (.ld true 2 (.t 169)),
   S 171 (.mv (.t 0)),
   S 172 (.mv (.t 13)),
   S 173 (.ixa 2 (.t 171) (.t 172)),
   S 174 (.ld true 2 (.t 173)),
   S 175 (.ixa 2 (.t 163) (.t 164)),
   E (.st 2 (.t 175) (.t 170)),
   S 176 (.ixa 2 (.t 165) (.t 166)),
   E (.st 2 (.t 176) (.t 174))])
 (.seq (.ops [S 177 (.mv (.t 13)),
   S 10 (.mv (.t 177)),
   S 11 (.mv (xB false))])
 (.ret)))))))))))),
 [.tmp 10, .tmp 11], false, false, false⟩
/- math/bits.Len32 -/
def d_math_bits_Len32 : DFn := ⟨1,
 .seq (.ops [S 2 (.mv (xI 0))])
 (.seq (.seq (.ops [S 3 (.mv (.t 0)),
   S 4 (.bin .geq .none (.t 3) (.v (.p (.int .u32 65536))))])
 (.cond (.t 4)
  (.seq (.ops [S 5 (.mv (.t 0)),
    S 6 (.bin .shr .none (.t 5) (.v (.p (.int .u64 16)))),
    S 0 (.mv (.t 6))])
  (.ops [S 2 (.mv (xI 16))]))
  (.skip)))
 (.seq (.seq (.ops [S 7 (.mv (.t 0)),
   S 8 (.bin .geq .none (.t 7) (.v (.p (.int .u32 256))))])
 (.cond (.t 8)
  (.seq (.ops [S 9 (.mv (.t 0)),
    S 10 (.bin .shr .none (.t 9) (.v (.p (.int .u64 8)))),
    S 0 (.mv (.t 10))])
  (.ops [S 11 (.mv (.t 2)),
    S 12 (.bin .add .none (.t 11) (xI 8)),
    S 2 (.mv (.t 12))]))
  (.skip)))
 (.seq (.ops [S 13 (.mv (.t 2)),
   S 14 (.mv (.t 0)),
   S 15 (.conv .u8 (.t 14)),
   S 16 (.ixs (.v (.p (.str (bs [0, 1, 2, 2, 3, 3, 3, 3, 4, 4, 4, 4, 4, 4, 4, 4, 5, 5, 5, 5, 5, 5, 5, 5, 5, 5, 5, 5, 5, 5, 5, 5, 6, 6, 6, 6, 6, 6, 6, 6, 6, 6, 6, 6, 6, 6, 6, 6, 6, 6, 6, 6, 6, 6, 6, 6, 6, 6, 6, 6, 6, 6, 6, 6, 7, 7, 7, 7, 7, 7, 7, 7, 7, 7, 7, 7, 7, 7, 7, 7, 7, 7, 7, 7, 7, 7, 7, 7, 7, 7, 7, 7, 7, 7, 7, 7, 7, 7, 7, 7, 7, 7, 7, 7, 7, 7, 7, 7, 7, 7, 7, 7, 7, 7, 7, 7, 7, 7, 7, 7, 7, 7, 7, 7, 7, 7, 7, 7, 8, 8, 8, 8, 8, 8, 8, 8, 8, 8, 8, 8, 8, 8, 8, 8, 8, 8, 8, 8, 8, 8, 8, 8, 8, 8, 8, 8, 8, 8, 8, 8, 8, 8, 8, 8, 8, 8, 8, 8, 8, 8, 8, 8, 8, 8, 8, 8, 8, 8, 8, 8, 8, 8, 8, 8, 8, 8, 8, 8, 8, 8, 8, 8, 8, 8, 8, 8, 8, 8, 8, 8, 8, 8, 8, 8, 8, 8, 8, 8, 8, 8, 8, 8, 8, 8, 8, 8, 8, 8, 8, 8, 8, 8, 8, 8, 8, 8, 8, 8, 8, 8, 8, 8, 8, 8, 8, 8, 8, 8, 8, 8, 8, 8, 8, 8, 8, 8, 8, 8, 8, 8, 8, 8, 8, 8, 8, 8])))) (.t 15)),
   S 17 (.conv .i64 (.t 16)),
   S 18 (.bin .add .none (.t 13) (.t 17)),
   S 2 (.mv (.t 18))])
 (.ret)))),
 [.tmp 2], false, false, false⟩
/- math/bits.Len64 -/
def d_math_bits_Len64 : DFn := ⟨1,
 .seq (.ops [S 2 (.mv (xI 0))])
 (.seq (.seq (.ops [S 3 (.mv (.t 0)),
   S 4 (.bin .geq .none (.t 3) (.v (.p (.int .u64 4294967296))))])
 (.cond (.t 4)
  (.seq (.ops [S 5 (.mv (.t 0)),
    S 6 (.bin .shr .none (.t 5) (.v (.p (.int .u64 32)))),
    S 0 (.mv (.t 6))])
  (.ops [S 2 (.mv (xI 32))]))
  (.skip)))
 (.seq (.seq (.ops [S 7 (.mv (.t 0)),
   S 8 (.bin .geq .none (.t 7) (.v (.p (.int .u64 65536))))])
 (.cond (.t 8)
  (.seq (.ops [S 9 (.mv (.t 0)),
    S 10 (.bin .shr .none (.t 9) (.v (.p (.int .u64 16)))),
    S 0 (.mv (.t 10))])
  (.ops [S 11 (.mv (.t 2)),
    S 12 (.bin .add .none (.t 11) (xI 16)),
    S 2 (.mv (.t 12))]))
  (.skip)))
 (.seq (.seq (.ops [S 13 (.mv (.t 0)),
   S 14 (.bin .geq .none (.t 13) (.v (.p (.int .u64 256))))])
 (.cond (.t 14)
  (.seq (.ops [S 15 (.mv (.t 0)),
    S 16 (.bin .shr .none (.t 15) (.v (.p (.int .u64 8)))),
    S 0 (.mv (.t 16))])
  (.ops [S 17 (.mv (.t 2)),
    S 18 (.bin .add .none (.t 17) (xI 8)),
    S 2 (.mv (.t 18))]))
  (.skip)))
 (.seq (.ops [S 19 (.mv (.t 2)),
   S 20 (.mv (.t 0)),
   S 21 (.conv .u8 (.t 20)),
   S 22 (.ixs (.v (.p (.str (bs [0, 1, 2, 2, 3, 3, 3, 3, 4, 4, 4, 4, 4, 4, 4, 4, 5, 5, 5, 5, 5, 5, 5, 5, 5, 5, 5, 5, 5, 5, 5, 5, 6, 6, 6, 6, 6, 6, 6, 6, 6, 6, 6, 6, 6, 6, 6, 6, 6, 6, 6, 6, 6, 6, 6, 6, 6, 6, 6, 6, 6, 6, 6, 6, 7, 7, 7, 7, 7, 7, 7, 7, 7, 7, 7, 7, 7, 7, 7, 7, 7, 7, 7, 7, 7, 7, 7, 7, 7, 7, 7, 7, 7, 7, 7, 7, 7, 7, 7, 7, 7, 7, 7, 7, 7, 7, 7, 7, 7, 7, 7, 7, 7, 7, 7, 7, 7, 7, 7, 7, 7, 7, 7, 7, 7, 7, 7, 7, 8, 8, 8, 8, 8, 8, 8, 8, 8, 8, 8, 8, 8, 8, 8, 8, 8, 8, 8, 8, 8, 8, 8, 8, 8, 8, 8, 8, 8, 8, 8, 8, 8, 8, 8, 8, 8, 8, 8, 8, 8, 8, 8, 8, 8, 8, 8, 8, 8, 8, 8, 8, 8, 8, 8, 8, 8, 8, 8, 8, 8, 8, 8, 8, 8, 8, 8, 8, 8, 8, 8, 8, 8, 8, 8, 8, 8, 8, 8, 8, 8, 8, 8, 8, 8, 8, 8, 8, 8, 8, 8, 8, 8, 8, 8, 8, 8, 8, 8, 8, 8, 8, 8, 8, 8, 8, 8, 8, 8, 8, 8, 8, 8, 8, 8, 8, 8, 8, 8, 8, 8, 8, 8, 8, 8, 8, 8, 8])))) (.t 21)),
   S 23 (.conv .i64 (.t 22)),
   S 24 (.bin .add .none (.t 19) (.t 23)),
   S 2 (.mv (.t 24))])
 (.ret))))),
 [.tmp 2], false, false, false⟩
/- sibyl/table.may$1 -/
def d_table_may_1 : DFn := ⟨3,
 .seq (.ops [S 3 (.box true 5 (.t 0)),
   S 4 (.mv (xB false))])
 (.seq (.ops [S 5 (.ld true 5 (.t 3)),
   S 6 (.call n_table_named [(.t 5)]),
   S 7 (.mv (.t 6)),
   ⟨(some 8), .fld 4 (.t 3), (some (7, true)), []⟩,
   ⟨(some 9), .ld false 1 (.t 8), (some (7, true)), []⟩,
   ⟨(some 10), .bin .lss .none (.t 9) (xI 0), (some (7, true)), []⟩,
   ⟨(some 11), .mv (.t 10), (some (7, true)), []⟩,
   ⟨(some 12), .fld 4 (.t 3), (some (11, false)), []⟩,
   ⟨(some 13), .ld false 1 (.t 12), (some (11, false)), []⟩,
   ⟨(some 14), .ld false 1 (.t 1), (some (11, false)), []⟩,
   ⟨(some 15), .bin .gtr .none (.t 13) (.t 14), (some (11, false)), []⟩,
   ⟨(some 16), .pick (.t 11) (xB true) (.t 15), (some (7, true)), []⟩,
   S 17 (.pick (.t 7) (.t 16) (xB false)),
   S 18 (.mv (.t 17)),
   ⟨(some 19), .fld 4 (.t 3), (some (18, true)), []⟩,
   ⟨(some 20), .ld false 1 (.t 19), (some (18, true)), []⟩,
   ⟨(some 21), .ld false 1 (.t 2), (some (18, true)), []⟩,
   ⟨(some 22), .bin .neq .none (.t 20) (.t 21), (some (18, true)), []⟩,
   S 23 (.pick (.t 18) (.t 22) (xB false)),
   S 4 (.mv (.t 23))])
 (.ret)),
 [.tmp 4], false, false, false⟩
/- sibyl/table.named -/
def d_table_named : DFn := ⟨1,
 .seq (.ops [S 1 (.box true 5 (.t 0)),
   S 2 (.mv (xB false))])
 (.seq (.ops [S 3 (.fld 0 (.t 1)),
   S 4 (.ld false 1 (.t 3)),
   S 5 (.bin .eql .none (.t 4) (xI 7)),
   S 6 (.mv (.t 5)),
   ⟨(some 7), .fld 0 (.t 1), (some (6, false)), []⟩,
   ⟨(some 8), .ld false 1 (.t 7), (some (6, false)), []⟩,
   ⟨(some 9), .bin .eql .none (.t 8) (xI 8), (some (6, false)), []⟩,
   S 10 (.pick (.t 6) (xB true) (.t 9)),
   S 2 (.mv (.t 10))])
 (.ret)),
 [.tmp 2], false, false, false⟩
/- slices.ContainsFunc[[]sibyl/api.Code,sibyl/api.Code] -/
def d_slices_ContainsFunc_81 : DFn := ⟨2,
 .seq (.ops [S 4 (.mv (xB false))])
 (.seq (.ops [S 5 (.mv (.t 0)),
   S 6 (.mv (.t 1)),
   S 7 (.call n_slices_IndexFunc_95 [(.t 5), (.t 6)]),
   S 8 (.bin .geq .none (.t 7) (xI 0)),
   S 4 (.mv (.t 8))])
 (.ret)),
 [.tmp 4], false, false, false⟩
/- slices.Concat[[]sibyl/api.Code,sibyl/api.Code] -/
def d_slices_Concat_82 : DFn := ⟨1,
 .seq (.ops [S 2 (.nils 5 true)])
 (.seq (.ops [S 3 (.mv (xI 0))])
 (.seq (.seq (.ops [S 9 (.mv (.t 0)),
   S 10 (.len 0 (.t 9)),
   S 11 (.mv (xI 0))])
 (.block 0 (.loop [0, 3, 9, 10, 11] (.seq (.ops [S 12 (.bin .lss .none (.t 11) (.t 10))])
   (.seq (.cond (.t 12)
    (.skip)
    (.exit 0))
   (.seq (.block 1 (.seq (.ops [S 13 (.ixa 1 (.t 9) (.t 11)),
      S 14 (.ld false 1 (.t 13)),
      S 5 (.mv (.t 14))])
    (.seq (.ops [S 15 (.mv (.t 3)),
      S 16 (.mv (.t 5)),
      S 17 (.len 0 (.t 16)),
      S 18 (.bin .add .none (.t 15) (.t 17)),
      S 3 (.mv (.t 18))])
    (.seq (.ops [S 19 (.mv (.t 3)),
      S 20 (.bin .lss .none (.t 19) (xI 0))])
    (.cond (.t 20)
     (.ops [E (.nz (.v .junk))])
     (.skip))))))
   (.ops [S 22 (.bin .add .none (.t 11) (xI 1)),
     S 11 (.mv (.t 22))])))))))
 (.seq (.ops [S 23 (.mv (.t 3)),
   S 24 (.call n_slices_Grow_96 [(.v (.full [])), (.t 23)]),
   S 6 (.mv (.t 24))])
 (.seq (.seq (.ops [S 25 (.mv (.t 0)),
   S 26 (.len 0 (.t 25)),
   S 27 (.mv (xI 0))])
 (.block 2 (.loop [6, 25, 26, 27] (.seq (.ops [S 28 (.bin .lss .none (.t 27) (.t 26))])
   (.seq (.cond (.t 28)
    (.skip)
    (.exit 2))
   (.seq (.block 3 (.seq (.ops [S 29 (.ixa 1 (.t 25) (.t 27)),
      S 30 (.ld false 1 (.t 29)),
      S 8 (.mv (.t 30))])
    (.ops [S 31 (.mv (.t 6)),
      S 32 (.mv (.t 8)),
      S 33 (.app 5 true 48 (.t 31) (.t 32)),
      S 6 (.mv (.t 33))])))
   (.ops [S 34 (.bin .add .none (.t 27) (xI 1)),
     S 27 (.mv (.t 34))])))))))
 (.seq (.ops [S 35 (.mv (.t 6)),
   S 2 (.mv (.t 35))])
 (.ret)))))),
 [.tmp 2], false, false, false⟩
/- slices.IndexFunc[[]sibyl/api.Guard,sibyl/api.Guard] -/
def d_slices_IndexFunc : DFn := ⟨2,
 .seq (.ops [S 4 (.mv (xI 0))])
 (.seq (.seq (.ops [S 6 (.mv (.t 0)),
   S 7 (.len 0 (.t 6)),
   S 8 (.mv (xI 0))])
 (.block 0 (.loop [0, 1, 7, 8] (.seq (.ops [S 9 (.bin .lss .none (.t 8) (.t 7))])
   (.seq (.cond (.t 9)
    (.skip)
    (.exit 0))
   (.seq (.block 1 (.seq (.ops [S 10 (.mv (.t 8)),
      S 5 (.mv (.t 10))])
    (.seq (.ops [S 11 (.mv (.t 1)),
      S 12 (.mv (.t 0)),
      S 13 (.mv (.t 5)),
      S 14 (.ixa 2 (.t 12) (.t 13)),
      S 15 (.ld true 2 (.t 14)),
      S 16 (.callv (.t 11) [(.t 15)])])
    (.cond (.t 16)
     (.seq (.ops [S 17 (.mv (.t 5)),
       S 4 (.mv (.t 17))])
     (.ret))
     (.skip)))))
   (.ops [S 18 (.bin .add .none (.t 8) (xI 1)),
     S 8 (.mv (.t 18))])))))))
 (.seq (.ops [S 4 (.mv (xI (-1)))])
 (.ret))),
 [.tmp 4], false, false, false⟩
/- slices.Grow[[]int,int] -/
def d_slices_Grow : DFn := ⟨2,
 .seq (.ops [S 4 (.nils 1 false)])
 (.seq (.seq (.ops [S 5 (.mv (.t 1)),
   S 6 (.bin .lss .none (.t 5) (xI 0))])
 (.cond (.t 6)
  (.ops [E (.nz (.v .junk))])
  (.skip)))
 (.seq (.seq (.ops [S 8 (.mv (.t 1)),
   S 9 (.mv (.t 0)),
   S 10 (.cap (.t 9)),
   S 11 (.mv (.t 0)),
   S 12 (.len 0 (.t 11)),
   S 13 (.bin .sub .none (.t 10) (.t 12)),
   S 14 (.bin .sub .none (.t 8) (.t 13)),
   S 1 (.mv (.t 14))])
 (.seq (.ops [S 15 (.mv (.t 1)),
   S 16 (.bin .gtr .none (.t 15) (xI 0))])
 (.cond (.t 16)
  (.ops [S 17 (.mv (.t 0)),
    S 18 (.mv (.t 0)),
    S 19 (.cap (.t 18)),
    S 20 (.slc 1 (.t 17) none (some (.t 19)) none),
    S 21 (.mv (.t 1)),
    S 22 (.appz 1 false 8 [(eI 0)] (.t 20) (.t 21)),
    S 23 (.mv (.t 0)),
    S 24 (.len 0 (.t 23)),
    S 25 (.slc 1 (.t 22) none (some (.t 24)) none),
    S 0 (.mv (.t 25))])
  (.skip))))
 (.seq (.ops [S 26 (.mv (.t 0)),
   S 4 (.mv (.t 26))])
 (.ret)))),
 [.tmp 4], false, false, false⟩
/- slices.Clone[[]int,int] -/
def d_slices_Clone_85 : DFn := ⟨1,
 .seq (.ops [S 2 (.nils 1 false)])
 (.seq (.ops [S 5 (.lit 1 false [] []),
   S 6 (.mv (.t 0)),
   S 7 (.app 1 false 8 (.t 5) (.t 6)),
   S 2 (.mv (.t 7))])
 (.ret)),
 [.tmp 2], false, false, false⟩
/- sibyl/step.barred$1 -/
def d_step_barred_1 : DFn := ⟨4,
 .seq (.ops [S 4 (.box true 2 (.t 0)),
   S 5 (.mv (xB false))])
 (.seq (.ops [S 6 (.fld 0 (.t 4)),
   S 7 (.ld false 1 (.t 6)),
   S 8 (.ld false 1 (.t 1)),
   S 9 (.ld false 1 (.t 1)),
   S 10 (.len 0 (.t 9)),
   S 11 (.bin .sub .none (.t 10) (xI 1)),
   S 12 (.ixa 6 (.t 8) (.t 11)),
   S 13 (.fld 0 (.t 12)),
   S 14 (.ld false 1 (.t 13)),
   S 15 (.bin .eql .none (.t 7) (.t 14)),
   S 16 (.mv (.t 15)),
   ⟨(some 17), .fld 1 (.t 4), (some (16, true)), []⟩,
   ⟨(some 18), .ld false 1 (.t 17), (some (16, true)), []⟩,
   ⟨(some 19), .ld false 1 (.t 1), (some (16, true)), []⟩,
   ⟨(some 20), .ld true 3 (.t 2), (some (16, true)), []⟩,
   ⟨(some 21), .fld 0 (.t 3), (some (16, true)), []⟩,
   ⟨(some 22), .ld false 1 (.t 21), (some (16, true)), []⟩,
   ⟨(some 23), .len 0 (.t 22), (some (16, true)), []⟩,
   ⟨(some 24), .call n_step_sets [(.t 19), (.t 20), (.t 23)], (some (16, true)), [(18, .ld false 1 (.t 17), (some (16, true)))]⟩,
   ⟨(some 25), .call n_pred_All [(.t 18), (.t 24)], (some (16, true)), []⟩,
   S 26 (.pick (.t 16) (.t 25) (xB false)),
   S 5 (.mv (.t 26))])
 (.ret)),
 [.tmp 5], false, false, false⟩
/- sibyl/pred.All -/
def d_pred_All : DFn := ⟨2,
 .seq (.ops [S 4 (.mv (xB false))])
 (.seq (.seq (.ops [S 7 (.mv (.t 0)),
   S 8 (.len 0 (.t 7)),
   S 9 (.mv (xI 0))])
 (.block 0 (.loop [1, 7, 8, 9] (.seq (.ops [S 10 (.bin .lss .none (.t 9) (.t 8))])
   (.seq (.cond (.t 10)
    (.skip)
    (.exit 0))
   (.seq (.block 1 (.seq (.ops [S 11 (.ixa 3 (.t 7) (.t 9)),
      S 12 (.ld true 3 (.t 11)),
      S 6 (.new true [(eI 0), (.full []), (.full [])]),
      E (.st 3 (.t 6) (.t 12))])
    (.seq (.ops [S 13 (.ld true 3 (.t 6)),
      S 14 (.mv (.t 1)),
      S 15 (.call n_pred_Holds [(.t 13), (.t 14)]),
      S 16 (.un .not (.t 15))])
    (.cond (.t 16)
     (.seq (.ops [S 4 (.mv (xB false))])
     (.ret))
     (.skip)))))
   (.ops [S 17 (.bin .add .none (.t 9) (xI 1)),
     S 9 (.mv (.t 17))])))))))
 (.seq (.ops [S 4 (.mv (xB true))])
 (.ret))),
 [.tmp 4], false, false, false⟩
/- sibyl/step.sets -/
def d_step_sets : DFn := ⟨3,
 .seq (.ops [S 4 (.box true 3 (.t 1)),
   S 6 (.nils 1 false)])
 (.seq (.ops [S 12 (.fld 1 (.t 4)),
   S 13 (.ld false 1 (.t 12)),
   S 14 (.len 0 (.t 13)),
   S 15 (.mv (.t 2)),
   S 16 (.bin .add .none (.t 15) (xI 1)),
   S 17 (.mnx true (.t 14) (.t 16)),
   S 18 (.mks 1 false 24 [(.full [])] (.t 17) (.t 17)),
   S 7 (.mv (.t 18))])
 (.seq (.seq (.ops [S 19 (.fld 1 (.t 4)),
   S 20 (.ld false 1 (.t 19)),
   S 21 (.len 0 (.t 20)),
   S 22 (.mv (xI 0))])
 (.block 0 (.loop [0, 2, 7, 20, 21, 22] (.seq (.ops [S 23 (.bin .lss .none (.t 22) (.t 21))])
   (.seq (.cond (.t 23)
    (.skip)
    (.exit 0))
   (.seq (.block 1 (.seq (.ops [S 24 (.mv (.t 22)),
      S 25 (.ixa 1 (.t 20) (.t 22)),
      S 26 (.ld false 1 (.t 25)),
      S 8 (.mv (.t 24)),
      S 9 (.mv (.t 26))])
    (.seq (.ops [S 27 (.mv (.t 9)),
      S 28 (.len 0 (.t 27)),
      S 29 (.mv (xI 0))])
    (.block 2 (.loop [0, 2, 7, 8, 20, 21, 22, 27, 28, 29] (.seq (.ops [S 30 (.bin .lss .none (.t 29) (.t 28))])
      (.seq (.cond (.t 30)
       (.skip)
       (.exit 2))
      (.seq (.block 3 (.seq (.ops [S 31 (.ixa 1 (.t 27) (.t 29)),
         S 32 (.ld false 1 (.t 31)),
         S 11 (.mv (.t 32))])
       (.ops [S 33 (.mv (.t 7)),
         S 34 (.mv (.t 8)),
         S 35 (.mv (.t 7)),
         S 36 (.mv (.t 8)),
         S 37 (.ixa 1 (.t 35) (.t 36)),
         S 38 (.ld false 1 (.t 37)),
         S 39 (.mv (.t 0)),
         S 40 (.mv (.t 11)),
         S 41 (.ixa 6 (.t 39) (.t 40)),
         S 42 (.ld true 6 (.t 41)),
         S 43 (.lit 6 true [[(eI 0), (eI 0), (eI 0), (eI 0), (eI 0), (eI 0)]] [(0, (.t 42))]),
         S 44 (.app 6 true 48 (.t 38) (.t 43)),
         S 45 (.ixa 1 (.t 33) (.t 34)),
         E (.st 1 (.t 45) (.t 44))])))
      (.ops [S 46 (.bin .add .none (.t 29) (xI 1)),
        S 29 (.mv (.t 46))])))))))))
   (.ops [S 47 (.bin .add .none (.t 22) (xI 1)),
     S 22 (.mv (.t 47))])))))))
 (.seq (.ops [S 48 (.mv (.t 7)),
   S 49 (.mv (.t 2)),
   S 50 (.mv (.t 7)),
   S 51 (.mv (.t 2)),
   S 52 (.ixa 1 (.t 50) (.t 51)),
   S 53 (.ld false 1 (.t 52)),
   S 54 (.mv (.t 0)),
   S 55 (.mv (.t 0)),
   S 56 (.len 0 (.t 55)),
   S 57 (.bin .sub .none (.t 56) (xI 1)),
   S 58 (.ixa 6 (.t 54) (.t 57)),
   S 59 (.ld true 6 (.t 58)),
   S 60 (.lit 6 true [[(eI 0), (eI 0), (eI 0), (eI 0), (eI 0), (eI 0)]] [(0, (.t 59))]),
   S 61 (.app 6 true 48 (.t 53) (.t 60)),
   S 62 (.ixa 1 (.t 48) (.t 49)),
   E (.st 1 (.t 62) (.t 61))])
 (.seq (.ops [S 63 (.mv (.t 7)),
   S 6 (.mv (.t 63))])
 (.ret))))),
 [.tmp 6], false, false, false⟩
/- slices.rotateCmpFunc[sibyl/api.Found] -/
def d_slices_rotateCmpFunc : DFn := ⟨5,
 .seq (.ops [S 12 (.mv (.t 2)),
   S 13 (.mv (.t 1)),
   S 14 (.bin .sub .none (.t 12) (.t 13)),
   S 10 (.mv (.t 14))])
 (.seq (.ops [S 15 (.mv (.t 3)),
   S 16 (.mv (.t 2)),
   S 17 (.bin .sub .none (.t 15) (.t 16)),
   S 11 (.mv (.t 17))])
 (.seq (.block 0 (.loop [0, 2, 4, 10, 11] (.seq (.seq (.ops [S 18 (.mv (.t 10)),
     S 19 (.mv (.t 11)),
     S 20 (.bin .neq .none (.t 18) (.t 19))])
   (.cond (.t 20)
    (.skip)
    (.exit 0)))
   (.block 1 (.seq (.ops [S 21 (.mv (.t 10)),
      S 22 (.mv (.t 11)),
      S 23 (.bin .gtr .none (.t 21) (.t 22))])
    (.cond (.t 23)
     (.seq (.ops [S 24 (.mv (.t 0)),
       S 25 (.mv (.t 2)),
       S 26 (.mv (.t 10)),
       S 27 (.bin .sub .none (.t 25) (.t 26)),
       S 28 (.mv (.t 2)),
       S 29 (.mv (.t 11)),
       S 30 (.mv (.t 4)),
       S 31 (.call n_slices_swapRangeCmpFunc [(.t 24), (.t 27), (.t 28), (.t 29), (.t 30)])])
     (.ops [S 32 (.mv (.t 10)),
       S 33 (.mv (.t 11)),
       S 34 (.bin .sub .none (.t 32) (.t 33)),
       S 10 (.mv (.t 34))]))
     (.seq (.ops [S 35 (.mv (.t 0)),
       S 36 (.mv (.t 2)),
       S 37 (.mv (.t 10)),
       S 38 (.bin .sub .none (.t 36) (.t 37)),
       S 39 (.mv (.t 2)),
       S 40 (.mv (.t 11)),
       S 41 (.bin .add .none (.t 39) (.t 40)),
       S 42 (.mv (.t 10)),
       S 43 (.bin .sub .none (.t 41) (.t 42)),
       S 44 (.mv (.t 10)),
       S 45 (.mv (.t 4)),
       S 46 (.call n_slices_swapRangeCmpFunc [(.t 35), (.t 38), (.t 43), (.t 44), (.t 45)])])
     (.ops [S 47 (.mv (.t 11)),
       S 48 (.mv (.t 10)),
       S 49 (.bin .sub .none (.t 47) (.t 48)),
       S 11 (.mv (.t 49))]))))))))
 (.ops [S 50 (.mv (.t 0)),
   S 51 (.mv (.t 2)),
   S 52 (.mv (.t 10)),
   S 53 (.bin .sub .none (.t 51) (.t 52)),
   S 54 (.mv (.t 2)),
   S 55 (.mv (.t 10)),
   S 56 (.mv (.t 4)),
   S 57 (.call n_slices_swapRangeCmpFunc [(.t 50), (.t 53), (.t 54), (.t 55), (.t 56)])]))),
 [], false, false, false⟩
/- slices.siftDownCmpFunc[sibyl/api.Ref] -/
def d_slices_siftDownCmpFunc : DFn := ⟨5,
 .seq (.ops [S 12 (.mv (.t 1)),
   S 10 (.mv (.t 12))])
 (.block 0 (.loop [0, 2, 3, 4, 10] (.block 1 (.seq (.ops [S 13 (.mv (.t 10)),
      S 14 (.bin .mul .none (xI 2) (.t 13)),
      S 15 (.bin .add .none (.t 14) (xI 1)),
      S 11 (.mv (.t 15))])
    (.seq (.seq (.ops [S 16 (.mv (.t 11)),
      S 17 (.mv (.t 2)),
      S 18 (.bin .geq .none (.t 16) (.t 17))])
    (.cond (.t 18)
     (.exit 0)
     (.skip)))
    (.seq (.seq (.ops [S 19 (.mv (.t 11)),
      S 20 (.bin .add .none (.t 19) (xI 1)),
      S 21 (.mv (.t 2)),
      S 22 (.bin .lss .none (.t 20) (.t 21)),
      S 23 (.mv (.t 22)),
      ⟨(some 24), .mv (.t 4), (some (23, true)), []⟩,
      ⟨(some 25), .mv (.t 0), (some (23, true)), []⟩,
      ⟨(some 26), .mv (.t 3), (some (23, true)), []⟩,
      ⟨(some 27), .mv (.t 11), (some (23, true)), []⟩,
      ⟨(some 28), .bin .add .none (.t 26) (.t 27), (some (23, true)), []⟩,
      ⟨(some 29), .ixa 2 (.t 25) (.t 28), (some (23, true)), []⟩,
      ⟨(some 30), .ld true 2 (.t 29), (some (23, true)), []⟩,
      ⟨(some 31), .mv (.t 0), (some (23, true)), []⟩,
      ⟨(some 32), .mv (.t 3), (some (23, true)), []⟩,
      ⟨(some 33), .mv (.t 11), (some (23, true)), []⟩,
      ⟨(some 34), .bin .add .none (.t 32) (.t 33), (some (23, true)), []⟩,
      ⟨(some 35), .bin .add .none (.t 34) (xI 1), (some (23, true)), []⟩,
      ⟨(some 36), .ixa 2 (.t 31) (.t 35), (some (23, true)), []⟩,
      ⟨(some 37), .ld true 2 (.t 36), (some (23, true)), []⟩,
      ⟨(some 38), .callv (.t 24) [(.t 30), (.t 37)], (some (23, true)), []⟩,
      ⟨(some 39), .bin .lss .none (.t 38) (xI 0), (some (23, true)), []⟩,
      S 40 (.pick (.t 23) (.t 39) (xB false))])
    (.cond (.t 40)
     (.ops [S 41 (.mv (.t 11)),
       S 42 (.bin .add .none (.t 41) (xI 1)),
       S 11 (.mv (.t 42))])
     (.skip)))
    (.seq (.seq (.ops [S 43 (.mv (.t 4)),
      S 44 (.mv (.t 0)),
      S 45 (.mv (.t 3)),
      S 46 (.mv (.t 10)),
      S 47 (.bin .add .none (.t 45) (.t 46)),
      S 48 (.ixa 2 (.t 44) (.t 47)),
      S 49 (.ld true 2 (.t 48)),
      S 50 (.mv (.t 0)),
      S 51 (.mv (.t 3)),
      S 52 (.mv (.t 11)),
      S 53 (.bin .add .none (.t 51) (.t 52)),
      S 54 (.ixa 2 (.t 50) (.t 53)),
      S 55 (.ld true 2 (.t 54)),
      S 56 (.callv (.t 43) [(.t 49), (.t 55)]),
      S 57 (.bin .lss .none (.t 56) (xI 0)),
      S 58 (.un .not (.t 57))])
    (.cond (.t 58)
     (.ret)
     (.skip)))
    (.seq (.ops [S 59 (.mv (.t 0)),
      S 60 (.mv (.t 3)),
      S 61 (.mv (.t 10)),
      S 62 (.bin .add .none (.t 60) (.t 61)),
      S 63 (.mv (.t 0)),
      S 64 (.mv (.t 3)),
      S 65 (.mv (.t 11)),
      S 66 (.bin .add .none (.t 64) (.t 65)),
      S 67 (.mv (.t 0)),
      S 68 (.mv (.t 3)),
      S 69 (.mv (.t 11)),
      S 70 (.bin .add .none (.t 68) (.t 69)),
      S 71 (.ixa 2 (.t 67) (.t 70)),
      S 72 (.ld true 2 (.t 71)),
      S 73 (.mv (.t 0)),
      S 74 (.mv (.t 3)),
      S 75 (.mv (.t 10)),
      S 76 (.bin .add .none (.t 74) (.t 75)),
      S 77 (.ixa 2 (.t 73) (.t 76)),
      S 78 (.ld true 2 (.t 77)),
      S 79 (.ixa 2 (.t 59) (.t 62)),
      E (.st 2 (.t 79) (.t 72)),
      S 80 (.ixa 2 (.t 63) (.t 66)),
      E (.st 2 (.t 80) (.t 78))])
    (.ops [S 81 (.mv (.t 11)),
      S 10 (.mv (.t 81))]))))))))),
 [], false, false, false⟩
/- slices.nextPowerOfTwo -/
def d_slices_nextPowerOfTwo : DFn := ⟨1,
 .seq (.ops [S 2 (.mv (.v (.p (.int .u64 0))))])
 (.seq (.ops [S 3 (.mv (.t 0)),
   S 4 (.conv .u64 (.t 3)),
   S 5 (.call n_math_bits_Len [(.t 4)]),
   S 6 (.bin .shl .none (.v (.p (.int .u64 1))) (.t 5)),
   S 2 (.mv (.t 6))])
 (.ret)),
 [.tmp 2], false, false, false⟩
/- (*slices.xorshift).Next -/
def d_slices_xorshift_Next : DFn := ⟨1,
 .seq (.ops [S 2 (.mv (.v (.p (.int .u64 0))))])
 (.seq (.ops [S 3 (.mv (.t 0)),
   S 4 (.nz (.t 3)),
   S 5 (.ld false 1 (.t 4)),
   S 6 (.mv (.t 0)),
   S 7 (.nz (.t 6)),
   S 8 (.ld false 1 (.t 7)),
   S 9 (.bin .shl .none (.t 8) (.v (.p (.int .u64 13)))),
   S 10 (.bin .xor .none (.t 5) (.t 9)),
   S 11 (.nz (.t 3)),
   E (.st 1 (.t 11) (.t 10))])
 (.seq (.ops [S 12 (.mv (.t 0)),
   S 13 (.nz (.t 12)),
   S 14 (.ld false 1 (.t 13)),
   S 15 (.mv (.t 0)),
   S 16 (.nz (.t 15)),
   S 17 (.ld false 1 (.t 16)),
   S 18 (.bin .shr .none (.t 17) (.v (.p (.int .u64 7)))),
   S 19 (.bin .xor .none (.t 14) (.t 18)),
   S 20 (.nz (.t 12)),
   E (.st 1 (.t 20) (.t 19))])
 (.seq (.ops [S 21 (.mv (.t 0)),
   S 22 (.nz (.t 21)),
   S 23 (.ld false 1 (.t 22)),
   S 24 (.mv (.t 0)),
   S 25 (.nz (.t 24)),
   S 26 (.ld false 1 (.t 25)),
   S 27 (.bin .shl .none (.t 26) (.v (.p (.int .u64 17)))),
   S 28 (.bin .xor .none (.t 23) (.t 27)),
   S 29 (.nz (.t 21)),
   E (.st 1 (.t 29) (.t 28))])
 (.seq (.ops [S 30 (.mv (.t 0)),
   S 31 (.nz (.t 30)),
   S 32 (.ld false 1 (.t 31)),
   S 2 (.mv (.t 32))])
 (.ret))))),
 [.tmp 2], false, false, false⟩
/- slices.medianAdjacentCmpFunc[sibyl/api.Ref] -/
def d_slices_medianAdjacentCmpFunc : DFn := ⟨4,
 .seq (.ops [S 8 (.mv (xI 0))])
 (.seq (.ops [S 9 (.mv (.t 0)),
   S 10 (.mv (.t 1)),
   S 11 (.bin .sub .none (.t 10) (xI 1)),
   S 12 (.mv (.t 1)),
   S 13 (.mv (.t 1)),
   S 14 (.bin .add .none (.t 13) (xI 1)),
   S 15 (.mv (.t 2)),
   S 16 (.mv (.t 3)),
   S 17 (.call n_slices_medianCmpFunc [(.t 9), (.t 11), (.t 12), (.t 14), (.t 15), (.t 16)]),
   S 8 (.mv (.t 17))])
 (.ret)),
 [.tmp 8], false, false, false⟩
/- slices.medianCmpFunc[sibyl/api.Ref] -/
def d_slices_medianCmpFunc : DFn := ⟨6,
 .seq (.ops [S 12 (.mv (xI 0))])
 (.seq (.ops [S 14 (.mv (.t 0)),
   S 15 (.mv (.t 1)),
   S 16 (.mv (.t 2)),
   S 17 (.mv (.t 4)),
   S 18 (.mv (.t 5)),
   S 19 (.call n_slices_order2CmpFunc [(.t 14), (.t 15), (.t 16), (.t 17), (.t 18)]),
   S 13 (.mv (.t 19)),
   S 20 (.ext (.t 13) 0),
   S 21 (.ext (.t 13) 1),
   S 1 (.mv (.t 20)),
   S 2 (.mv (.t 21))])
 (.seq (.ops [S 23 (.mv (.t 0)),
   S 24 (.mv (.t 2)),
   S 25 (.mv (.t 3)),
   S 26 (.mv (.t 4)),
   S 27 (.mv (.t 5)),
   S 28 (.call n_slices_order2CmpFunc [(.t 23), (.t 24), (.t 25), (.t 26), (.t 27)]),
   S 22 (.mv (.t 28)),
   S 29 (.ext (.t 22) 0),
   S 30 (.ext (.t 22) 1),
   S 2 (.mv (.t 29)),
   S 3 (.mv (.t 30))])
 (.seq (.ops [S 32 (.mv (.t 0)),
   S 33 (.mv (.t 1)),
   S 34 (.mv (.t 2)),
   S 35 (.mv (.t 4)),
   S 36 (.mv (.t 5)),
   S 37 (.call n_slices_order2CmpFunc [(.t 32), (.t 33), (.t 34), (.t 35), (.t 36)]),
   S 31 (.mv (.t 37)),
   S 38 (.ext (.t 31) 0),
   S 39 (.ext (.t 31) 1),
   S 1 (.mv (.t 38)),
   S 2 (.mv (.t 39))])
 (.seq (.ops [S 40 (.mv (.t 2)),
   S 12 (.mv (.t 40))])
 (.ret))))),
 [.tmp 12], false, false, false⟩
/- slices.IndexFunc[[]sibyl/api.Code,sibyl/api.Code] -/
def d_slices_IndexFunc_95 : DFn := ⟨2,
 .seq (.ops [S 4 (.mv (xI 0))])
 (.seq (.seq (.ops [S 6 (.mv (.t 0)),
   S 7 (.len 0 (.t 6)),
   S 8 (.mv (xI 0))])
 (.block 0 (.loop [0, 1, 7, 8] (.seq (.ops [S 9 (.bin .lss .none (.t 8) (.t 7))])
   (.seq (.cond (.t 9)
    (.skip)
    (.exit 0))
   (.seq (.block 1 (.seq (.ops [S 10 (.mv (.t 8)),
      S 5 (.mv (.t 10))])
    (.seq (.ops [S 11 (.mv (.t 1)),
      S 12 (.mv (.t 0)),
      S 13 (.mv (.t 5)),
      S 14 (.ixa 5 (.t 12) (.t 13)),
      S 15 (.ld true 5 (.t 14)),
      S 16 (.callv (.t 11) [(.t 15)])])
    (.cond (.t 16)
     (.seq (.ops [S 17 (.mv (.t 5)),
       S 4 (.mv (.t 17))])
     (.ret))
     (.skip)))))
   (.ops [S 18 (.bin .add .none (.t 8) (xI 1)),
     S 8 (.mv (.t 18))])))))))
 (.seq (.ops [S 4 (.mv (xI (-1)))])
 (.ret))),
 [.tmp 4], false, false, false⟩
/- slices.Grow[[]sibyl/api.Code,sibyl/api.Code] -/
def d_slices_Grow_96 : DFn := ⟨2,
 .seq (.ops [S 4 (.nils 5 true)])
 (.seq (.seq (.ops [S 5 (.mv (.t 1)),
   S 6 (.bin .lss .none (.t 5) (xI 0))])
 (.cond (.t 6)
  (.ops [E (.nz (.v .junk))])
  (.skip)))
 (.seq (.seq (.ops [S 8 (.mv (.t 1)),
   S 9 (.mv (.t 0)),
   S 10 (.cap (.t 9)),
   S 11 (.mv (.t 0)),
   S 12 (.len 0 (.t 11)),
   S 13 (.bin .sub .none (.t 10) (.t 12)),
   S 14 (.bin .sub .none (.t 8) (.t 13)),
   S 1 (.mv (.t 14))])
 (.seq (.ops [S 15 (.mv (.t 1)),
   S 16 (.bin .gtr .none (.t 15) (xI 0))])
 (.cond (.t 16)
  (.ops [S 17 (.mv (.t 0)),
    S 18 (.mv (.t 0)),
    S 19 (.cap (.t 18)),
    S 20 (.slc 5 (.t 17) none (some (.t 19)) none),
    S 21 (.mv (.t 1)),
    S 22 (.appz 5 true 48 [(eI 0), (eI 0), (.p (.str (bs []))), (eI 0), (eI 0)] (.t 20) (.t 21)),
    S 23 (.mv (.t 0)),
    S 24 (.len 0 (.t 23)),
    S 25 (.slc 5 (.t 22) none (some (.t 24)) none),
    S 0 (.mv (.t 25))])
  (.skip))))
 (.seq (.ops [S 26 (.mv (.t 0)),
   S 4 (.mv (.t 26))])
 (.ret)))),
 [.tmp 4], false, false, false⟩
/- sibyl/pred.Holds -/
def d_pred_Holds : DFn := ⟨2,
 .seq (.ops [S 2 (.box true 3 (.t 0)),
   S 4 (.mv (xB false))])
 (.seq (.ops [S 10 (.fld 1 (.t 2)),
   S 11 (.ld false 1 (.t 10)),
   S 12 (.mv (.t 1)),
   S 13 (.call n_pred_Eval [(.t 11), (.t 12)]),
   S 9 (.mv (.t 13)),
   S 14 (.ext (.t 9) 0),
   S 15 (.ext (.t 9) 1),
   S 5 (.mv (.t 14)),
   S 6 (.mv (.t 15))])
 (.seq (.ops [S 17 (.fld 2 (.t 2)),
   S 18 (.ld false 1 (.t 17)),
   S 19 (.mv (.t 1)),
   S 20 (.call n_pred_Eval [(.t 18), (.t 19)]),
   S 16 (.mv (.t 20)),
   S 21 (.ext (.t 16) 0),
   S 22 (.ext (.t 16) 1),
   S 7 (.mv (.t 21)),
   S 8 (.mv (.t 22))])
 (.seq (.ops [S 23 (.mv (.t 6)),
   S 24 (.mv (.t 23)),
   ⟨(some 25), .mv (.t 8), (some (24, true)), []⟩,
   S 26 (.pick (.t 24) (.t 25) (xB false)),
   S 27 (.mv (.t 26)),
   ⟨(some 28), .fld 0 (.t 2), (some (27, true)), []⟩,
   ⟨(some 29), .ld false 1 (.t 28), (some (27, true)), []⟩,
   ⟨(some 30), .mv (.t 5), (some (27, true)), []⟩,
   ⟨(some 31), .mv (.t 7), (some (27, true)), []⟩,
   ⟨(some 32), .call n_num_Test [(.t 29), (.t 30), (.t 31)], (some (27, true)), []⟩,
   S 33 (.pick (.t 27) (.t 32) (xB false)),
   S 4 (.mv (.t 33))])
 (.ret)))),
 [.tmp 4], false, false, false⟩
/- slices.swapRangeCmpFunc[sibyl/api.Found] -/
def d_slices_swapRangeCmpFunc : DFn := ⟨5,
 .seq (.ops [S 10 (.mv (xI 0))])
 (.block 0 (.loop [0, 1, 2, 3, 10] (.seq (.seq (.ops [S 11 (.mv (.t 10)),
     S 12 (.mv (.t 3)),
     S 13 (.bin .lss .none (.t 11) (.t 12))])
   (.cond (.t 13)
    (.skip)
    (.exit 0)))
   (.seq (.block 1 (.ops [S 16 (.mv (.t 0)),
      S 17 (.mv (.t 1)),
      S 18 (.mv (.t 10)),
      S 19 (.bin .add .none (.t 17) (.t 18)),
      S 20 (.mv (.t 0)),
      S 21 (.mv (.t 2)),
      S 22 (.mv (.t 10)),
      S 23 (.bin .add .none (.t 21) (.t 22)),
      S 24 (.mv (.t 0)),
      S 25 (.mv (.t 2)),
      S 26 (.mv (.t 10)),
      S 27 (.bin .add .none (.t 25) (.t 26)),
      S 28 (.ixa 2 (.t 24) (.t 27)),
      S 29 (.ld true 2 (.t 28)),
      S 30 (.mv (.t 0)),
      S 31 (.mv (.t 1)),
      S 32 (.mv (.t 10)),
      S 33 (.bin .add .none (.t 31) (.t 32)),
      S 34 (.ixa 2 (.t 30) (.t 33)),
      S 35 (.ld true 2 (.t 34)),
      S 36 (.ixa 2 (.t 16) (.t 19)),
      E (.st 2 (.t 36) (.t 29)),
      S 37 (.ixa 2 (.t 20) (.t 23)),
      E (.st 2 (.t 37) (.t 35))]))
   (.ops [S 14 (.mv (.t 10)),
     S 15 (.bin .add .none (.t 14) (xI 1)),
     S 10 (.mv (.t 15))]))))),
 [], false, false, false⟩
/- slices.order2CmpFunc[sibyl/api.Ref] -/
def d_slices_order2CmpFunc : DFn := ⟨5,
 .seq (.ops [S 10 (.mv (xI 0)),
   S 11 (.mv (xI 0))])
 (.seq (.seq (.ops [S 12 (.mv (.t 4)),
   S 13 (.mv (.t 0)),
   S 14 (.mv (.t 2)),
   S 15 (.ixa 2 (.t 13) (.t 14)),
   S 16 (.ld true 2 (.t 15)),
   S 17 (.mv (.t 0)),
   S 18 (.mv (.t 1)),
   S 19 (.ixa 2 (.t 17) (.t 18)),
   S 20 (.ld true 2 (.t 19)),
   S 21 (.callv (.t 12) [(.t 16), (.t 20)]),
   S 22 (.bin .lss .none (.t 21) (xI 0))])
 (.cond (.t 22)
  (.seq (.ops [S 23 (.mv (.t 3)),
    S 24 (.nz (.t 23)),
    S 25 (.ld false 1 (.t 24)),
    S 26 (.bin .add .none (.t 25) (xI 1)),
    S 27 (.nz (.t 23)),
    E (.st 1 (.t 27) (.t 26))])
  (.seq (.ops [S 28 (.mv (.t 2)),
    S 29 (.mv (.t 1)),
    S 10 (.mv (.t 28)),
    S 11 (.mv (.t 29))])
  (.ret)))
  (.skip)))
 (.seq (.ops [S 30 (.mv (.t 1)),
   S 31 (.mv (.t 2)),
   S 10 (.mv (.t 30)),
   S 11 (.mv (.t 31))])
 (.ret))),
 [.tmp 10, .tmp 11], false, false, false⟩
/- sibyl/pred.Eval -/
def d_pred_Eval : DFn := ⟨2,
 .seq (.ops [S 4 (.mv (xI 0)),
   S 5 (.mv (xB false))])
 (.seq (.ops [S 6 (.new false [(.full [])])])
 (.seq (.ops [S 7 (.new false [(eB false)]),
   E (.st 1 (.t 7) (xB true))])
 (.seq (.ops [S 17 (.mkf (.func n_pred_Eval_1) [] [(.t 7), (.t 6)]),
   S 8 (.mv (.t 17))])
 (.seq (.ops [S 18 (.mkf (.func n_pred_Eval_2) [] [(.t 6), (.t 7)]),
   S 9 (.mv (.t 18))])
 (.seq (.seq (.ops [S 19 (.mv (.t 0)),
   S 20 (.len 0 (.t 19)),
   S 21 (.mv (xI 0))])
 (.block 0 (.loop [1, 6, 7, 8, 9, 19, 20, 21] (.seq (.ops [S 22 (.bin .lss .none (.t 21) (.t 20))])
   (.seq (.cond (.t 22)
    (.skip)
    (.exit 0))
   (.seq (.block 1 (.seq (.ops [S 23 (.ixa 5 (.t 19) (.t 21)),
      S 24 (.ld true 5 (.t 23)),
      S 11 (.new true [(eI 0), (eI 0), (.p (.str (bs []))), (eI 0), (eI 0)]),
      E (.st 5 (.t 11) (.t 24))])
    (.seq (.ops [S 26 (.mv (.t 1)),
      S 27 (.fld 4 (.t 11)),
      S 28 (.ld false 1 (.t 27)),
      S 29 (.call n_pred_last [(.t 26), (.t 28)]),
      S 25 (.mv (.t 29)),
      S 30 (.ext (.t 25) 0),
      S 31 (.ext (.t 25) 1),
      S 12 (.new true [(eI 0), (eI 0), (eI 0), (eI 0), (eI 0), (eI 0)]),
      E (.st 6 (.t 12) (.t 30)),
      S 13 (.mv (.t 31))])
    (.seq (.ops [S 32 (.fld 0 (.t 11)),
      S 33 (.ld false 1 (.t 32))])
    (.block 2 (.seq (.block 7 (.seq (.block 6 (.seq (.block 5 (.seq (.block 4 (.seq (.block 3 (.seq (.seq (.seq (.ops [S 35 (.bin .eql .none (.t 33) (xI 6)),
            S 34 (.mv (.t 35))])
          (.cond (.t 34)
           (.exit 3)
           (.skip)))
          (.seq (.seq (.ops [S 37 (.bin .eql .none (.t 33) (xI 8)),
            S 36 (.mv (.t 37))])
          (.cond (.t 36)
           (.exit 4)
           (.skip)))
          (.seq (.seq (.ops [S 39 (.bin .eql .none (.t 33) (xI 7)),
            S 38 (.mv (.t 39))])
          (.cond (.t 38)
           (.exit 5)
           (.skip)))
          (.seq (.ops [S 41 (.bin .eql .none (.t 33) (xI 9)),
            S 40 (.mv (.t 41))])
          (.cond (.t 40)
           (.exit 6)
           (.skip))))))
          (.exit 7)))
         (.seq (.ops [S 42 (.mv (.t 8)),
           S 43 (.fld 1 (.t 11)),
           S 44 (.ld false 1 (.t 43)),
           S 45 (.callv (.t 42) [(.t 44), (xB true)])])
         (.exit 2))))
        (.seq (.ops [S 46 (.mv (.t 8)),
          S 47 (.mv (.t 13)),
          S 48 (.callv (.t 46) [(.t 47), (xB true)])])
        (.exit 2))))
       (.seq (.seq (.ops [S 49 (.mv (.t 13)),
         S 50 (.bin .gtr .none (.t 49) (xI 0)),
         S 51 (.mv (.t 50)),
         ⟨(some 52), .fld 3 (.t 11), (some (51, true)), []⟩,
         ⟨(some 53), .ld false 1 (.t 52), (some (51, true)), []⟩,
         ⟨(some 54), .bin .geq .none (.t 53) (xI 0), (some (51, true)), []⟩,
         S 55 (.pick (.t 51) (.t 54) (xB false)),
         S 56 (.mv (.t 55)),
         ⟨(some 57), .fld 3 (.t 11), (some (56, true)), []⟩,
         ⟨(some 58), .ld false 1 (.t 57), (some (56, true)), []⟩,
         ⟨(some 59), .bin .lss .none (.t 58) (xI 4), (some (56, true)), []⟩,
         S 60 (.pick (.t 56) (.t 59) (xB false)),
         S 14 (.mv (.t 60))])
       (.seq (.seq (.ops [S 61 (.mv (.t 14))])
       (.cond (.t 61)
        (.seq (.ops [S 62 (.mv (.t 8)),
          S 63 (.fld 3 (.t 11)),
          S 64 (.ld false 1 (.t 63)),
          S 65 (.fld 2 (.t 12)),
          S 66 (.ixp 4 1 (.t 65) (.t 64)),
          S 67 (.ld false 1 (.t 66)),
          S 68 (.callv (.t 62) [(.t 67), (xB true)])])
        (.exit 2))
        (.skip)))
       (.ops [S 69 (.mv (.t 8)),
         S 70 (.callv (.t 69) [(xI 0), (xB false)])])))
       (.exit 2))))
      (.seq (.ops [S 71 (.ld false 1 (.t 6)),
        S 72 (.lit 1 false [[(eI 0)]] [(0, (xI 0))]),
        S 73 (.app 1 false 8 (.t 71) (.t 72)),
        E (.st 1 (.t 6) (.t 73))])
      (.seq (.ops [S 74 (.ld false 1 (.t 6)),
        S 75 (.len 0 (.t 74)),
        S 15 (.mv (.t 75))])
      (.seq (.ops [S 76 (.ld false 1 (.t 7)),
        S 77 (.mv (.t 76)),
        ⟨(some 78), .mv (.t 15), (some (77, true)), []⟩,
        ⟨(some 79), .bin .gtr .none (.t 78) (xI 1), (some (77, true)), []⟩,
        S 80 (.pick (.t 77) (.t 79) (xB false)),
        E (.st 1 (.t 7) (.t 80))])
      (.seq (.seq (.ops [S 81 (.mv (.t 15)),
        S 82 (.bin .gtr .none (.t 81) (xI 1))])
      (.cond (.t 82)
       (.ops [S 83 (.ld false 1 (.t 6)),
         S 84 (.mv (.t 15)),
         S 85 (.bin .sub .none (.t 84) (xI 1)),
         S 86 (.ld false 1 (.t 6)),
         S 87 (.mv (.t 15)),
         S 88 (.bin .sub .none (.t 87) (xI 2)),
         S 89 (.ld false 1 (.t 6)),
         S 90 (.mv (.t 15)),
         S 91 (.bin .sub .none (.t 90) (xI 2)),
         S 92 (.ixa 1 (.t 89) (.t 91)),
         S 93 (.ld false 1 (.t 92)),
         S 94 (.ixa 1 (.t 83) (.t 85)),
         ⟨none, .st 1 (.t 94) (.t 93), none, [(86, .ld false 1 (.t 6), none)]⟩,
         S 95 (.ixa 1 (.t 86) (.t 88)),
         E (.st 1 (.t 95) (xI 0))])
       (.skip)))
      (.ops [S 96 (.fld 0 (.t 11)),
        E (.st 1 (.t 96) (xI 2))])))))))
     (.seq (.seq (.ops [S 97 (.mv (.t 9)),
       S 98 (.callv (.t 97) []),
       S 16 (.mv (.t 98))])
     (.ops [S 99 (.mv (.t 8)),
       S 100 (.fld 0 (.t 11)),
       S 101 (.ld false 1 (.t 100)),
       S 102 (.mv (.t 9)),
       S 104 (.mv (.t 16)),
       ⟨(some 103), .callv (.t 102) [], none, [(101, .ld false 1 (.t 100), none)]⟩,
       S 105 (.call n_num_Do [(.t 101), (.t 103), (.t 104)]),
       S 106 (.ext (.t 105) 0),
       S 107 (.ext (.t 105) 1),
       S 108 (.callv (.t 99) [(.t 106), (.t 107)])]))
     (.exit 2))))))))
   (.ops [S 109 (.bin .add .none (.t 21) (xI 1)),
     S 21 (.mv (.t 109))])))))))
 (.seq (.seq (.ops [S 110 (.ld false 1 (.t 7)),
   S 111 (.un .not (.t 110)),
   S 112 (.mv (.t 111)),
   ⟨(some 113), .ld false 1 (.t 6), (some (112, false)), []⟩,
   ⟨(some 114), .len 0 (.t 113), (some (112, false)), []⟩,
   ⟨(some 115), .bin .neq .none (.t 114) (xI 1), (some (112, false)), []⟩,
   S 116 (.pick (.t 112) (xB true) (.t 115))])
 (.cond (.t 116)
  (.seq (.ops [S 4 (.mv (xI 0)),
    S 5 (.mv (xB false))])
  (.ret))
  (.skip)))
 (.seq (.ops [S 117 (.ld false 1 (.t 6)),
   S 118 (.ixa 1 (.t 117) (xI 0)),
   S 119 (.ld false 1 (.t 118)),
   S 4 (.mv (.t 119)),
   S 5 (.mv (xB true))])
 (.ret)))))))),
 [.tmp 4, .tmp 5], false, false, false⟩
/- sibyl/num.Test -/
def d_num_Test : DFn := ⟨3,
 .seq (.ops [S 6 (.mv (xB false))])
 (.seq (.seq (.ops [S 7 (.mv (.t 0))])
 (.block 0 (.seq (.ops [S 9 (.bin .eql .none (.t 7) (xI 1)),
    S 8 (.mv (.t 9))])
  (.cond (.t 8)
   (.seq (.ops [S 10 (.mv (.t 1)),
     S 11 (.mv (.t 2)),
     S 12 (.bin .eql .none (.t 10) (.t 11)),
     S 6 (.mv (.t 12))])
   (.ret))
   (.seq (.ops [S 14 (.bin .eql .none (.t 7) (xI 2)),
     S 13 (.mv (.t 14))])
   (.cond (.t 13)
    (.seq (.ops [S 15 (.mv (.t 1)),
      S 16 (.mv (.t 2)),
      S 17 (.bin .neq .none (.t 15) (.t 16)),
      S 6 (.mv (.t 17))])
    (.ret))
    (.seq (.ops [S 19 (.bin .eql .none (.t 7) (xI 3)),
      S 18 (.mv (.t 19))])
    (.cond (.t 18)
     (.seq (.ops [S 20 (.mv (.t 1)),
       S 21 (.mv (.t 2)),
       S 22 (.bin .lss .none (.t 20) (.t 21)),
       S 6 (.mv (.t 22))])
     (.ret))
     (.seq (.ops [S 24 (.bin .eql .none (.t 7) (xI 4)),
       S 23 (.mv (.t 24))])
     (.cond (.t 23)
      (.seq (.ops [S 25 (.mv (.t 1)),
        S 26 (.mv (.t 2)),
        S 27 (.bin .leq .none (.t 25) (.t 26)),
        S 6 (.mv (.t 27))])
      (.ret))
      (.seq (.ops [S 29 (.bin .eql .none (.t 7) (xI 5)),
        S 28 (.mv (.t 29))])
      (.cond (.t 28)
       (.seq (.ops [S 30 (.mv (.t 1)),
         S 31 (.mv (.t 2)),
         S 32 (.bin .gtr .none (.t 30) (.t 31)),
         S 6 (.mv (.t 32))])
       (.ret))
       (.seq (.ops [S 34 (.bin .eql .none (.t 7) (xI 6)),
         S 33 (.mv (.t 34))])
       (.cond (.t 33)
        (.seq (.ops [S 35 (.mv (.t 1)),
          S 36 (.mv (.t 2)),
          S 37 (.bin .geq .none (.t 35) (.t 36)),
          S 6 (.mv (.t 37))])
        (.ret))
        (.skip)))))))))))))))
 (.seq (.ops [S 6 (.mv (xB false))])
 (.ret))),
 [.tmp 6], false, false, false⟩
/- sibyl/pred.Eval$1 -/
def d_pred_Eval_1 : DFn := ⟨4,
 .seq (.ops [S 6 (.ld false 1 (.t 2)),
   S 7 (.mv (.t 6)),
   ⟨(some 8), .mv (.t 1), (some (7, true)), []⟩,
   S 9 (.pick (.t 7) (.t 8) (xB false)),
   E (.st 1 (.t 2) (.t 9))])
 (.ops [S 10 (.ld false 1 (.t 3)),
   S 11 (.mv (.t 0)),
   S 12 (.lit 1 false [[(eI 0)]] [(0, (.t 11))]),
   S 13 (.app 1 false 8 (.t 10) (.t 12)),
   E (.st 1 (.t 3) (.t 13))]),
 [], false, false, false⟩
/- sibyl/pred.Eval$2 -/
def d_pred_Eval_2 : DFn := ⟨2,
 .seq (.ops [S 2 (.mv (xI 0))])
 (.seq (.seq (.ops [S 4 (.ld false 1 (.t 0)),
   S 5 (.len 0 (.t 4)),
   S 6 (.bin .eql .none (.t 5) (xI 0))])
 (.cond (.t 6)
  (.seq (.ops [E (.st 1 (.t 1) (xB false))])
  (.seq (.ops [S 2 (.mv (xI 0))])
  (.ret)))
  (.skip)))
 (.seq (.ops [S 7 (.ld false 1 (.t 0)),
   S 8 (.ld false 1 (.t 0)),
   S 9 (.len 0 (.t 8)),
   S 10 (.bin .sub .none (.t 9) (xI 1)),
   S 11 (.ixa 1 (.t 7) (.t 10)),
   S 12 (.ld false 1 (.t 11)),
   S 3 (.mv (.t 12))])
 (.seq (.ops [S 13 (.ld false 1 (.t 0)),
   S 14 (.ld false 1 (.t 0)),
   S 15 (.len 0 (.t 14)),
   S 16 (.bin .sub .none (.t 15) (xI 1)),
   S 17 (.slc 1 (.t 13) none (some (.t 16)) none),
   E (.st 1 (.t 0) (.t 17))])
 (.seq (.ops [S 18 (.mv (.t 3)),
   S 2 (.mv (.t 18))])
 (.ret))))),
 [.tmp 2], false, false, false⟩
/- sibyl/pred.last -/
def d_pred_last : DFn := ⟨2,
 .seq (.ops [S 4 (.new true [(eI 0), (eI 0), (eI 0), (eI 0), (eI 0), (eI 0)]),
   S 5 (.mv (xI 0))])
 (.seq (.seq (.ops [S 7 (.mv (.t 1)),
   S 8 (.bin .lss .none (.t 7) (xI 0)),
   S 9 (.mv (.t 8)),
   ⟨(some 10), .mv (.t 1), (some (9, false)), []⟩,
   ⟨(some 11), .mv (.t 0), (some (9, false)), []⟩,
   ⟨(some 12), .len 0 (.t 11), (some (9, false)), []⟩,
   ⟨(some 13), .bin .geq .none (.t 10) (.t 12), (some (9, false)), []⟩,
   S 14 (.pick (.t 9) (xB true) (.t 13)),
   S 15 (.mv (.t 14)),
   ⟨(some 16), .mv (.t 0), (some (15, false)), []⟩,
   ⟨(some 17), .mv (.t 1), (some (15, false)), []⟩,
   ⟨(some 18), .ixa 1 (.t 16) (.t 17), (some (15, false)), []⟩,
   ⟨(some 19), .ld false 1 (.t 18), (some (15, false)), []⟩,
   ⟨(some 20), .len 0 (.t 19), (some (15, false)), []⟩,
   ⟨(some 21), .bin .eql .none (.t 20) (xI 0), (some (15, false)), []⟩,
   S 22 (.pick (.t 15) (xB true) (.t 21))])
 (.cond (.t 22)
  (.seq (.ops [S 23 (.build [(eI 0), (eI 0), (eI 0), (eI 0), (eI 0), (eI 0)] []),
    E (.st 6 (.t 4) (.t 23)),
    S 5 (.mv (xI 0))])
  (.ret))
  (.skip)))
 (.seq (.ops [S 24 (.mv (.t 0)),
   S 25 (.mv (.t 1)),
   S 26 (.ixa 1 (.t 24) (.t 25)),
   S 27 (.ld false 1 (.t 26)),
   S 28 (.len 0 (.t 27)),
   S 6 (.mv (.t 28))])
 (.seq (.ops [S 29 (.mv (.t 0)),
   S 30 (.mv (.t 1)),
   S 31 (.ixa 1 (.t 29) (.t 30)),
   S 32 (.ld false 1 (.t 31)),
   S 33 (.mv (.t 6)),
   S 34 (.bin .sub .none (.t 33) (xI 1)),
   S 35 (.ixa 6 (.t 32) (.t 34)),
   S 36 (.ld true 6 (.t 35)),
   S 37 (.mv (.t 6)),
   E (.st 6 (.t 4) (.t 36)),
   S 5 (.mv (.t 37))])
 (.ret)))),
 [.cell 4 true 6, .tmp 5], false, false, false⟩
/- sibyl/num.Do -/
def d_num_Do : DFn := ⟨3,
 .seq (.ops [S 6 (.mv (xI 0)),
   S 7 (.mv (xB false))])
 (.seq (.seq (.ops [S 8 (.mv (.t 0))])
 (.block 0 (.seq (.block 5 (.seq (.block 4 (.seq (.block 3 (.seq (.block 2 (.seq (.block 1 (.seq (.seq (.seq (.ops [S 10 (.bin .eql .none (.t 8) (xI 2)),
         S 9 (.mv (.t 10))])
       (.cond (.t 9)
        (.exit 1)
        (.skip)))
       (.seq (.seq (.ops [S 12 (.bin .eql .none (.t 8) (xI 1)),
         S 11 (.mv (.t 12))])
       (.cond (.t 11)
        (.exit 2)
        (.skip)))
       (.seq (.seq (.ops [S 14 (.bin .eql .none (.t 8) (xI 3)),
         S 13 (.mv (.t 14))])
       (.cond (.t 13)
        (.exit 3)
        (.skip)))
       (.seq (.seq (.ops [S 16 (.bin .eql .none (.t 8) (xI 4)),
         S 15 (.mv (.t 16))])
       (.cond (.t 15)
        (.exit 4)
        (.skip)))
       (.seq (.ops [S 18 (.bin .eql .none (.t 8) (xI 5)),
         S 17 (.mv (.t 18))])
       (.cond (.t 17)
        (.exit 5)
        (.skip)))))))
       (.exit 0)))
      (.ops [S 19 (.mv (.t 2)),
        S 20 (.un .neg (.t 19)),
        S 2 (.mv (.t 20))])))
     (.seq (.seq (.ops [S 21 (.mv (.t 1)),
       S 22 (.mv (.t 2)),
       S 23 (.bin .add .none (.t 21) (.t 22)),
       S 6 (.mv (.t 23)),
       S 7 (.mv (xB true))])
     (.ret))
     (.exit 0))))
    (.seq (.seq (.ops [S 24 (.mv (.t 1)),
      S 25 (.mv (.t 2)),
      S 26 (.bin .mul .none (.t 24) (.t 25)),
      S 6 (.mv (.t 26)),
      S 7 (.mv (xB true))])
    (.ret))
    (.exit 0))))
   (.seq (.seq (.ops [S 27 (.mv (.t 2)),
     S 28 (.bin .neq .none (.t 27) (xI 0))])
   (.cond (.t 28)
    (.seq (.ops [S 29 (.mv (.t 1)),
      S 30 (.mv (.t 2)),
      S 31 (.bin .quo .none (.t 29) (.t 30)),
      S 6 (.mv (.t 31)),
      S 7 (.mv (xB true))])
    (.ret))
    (.skip)))
   (.exit 0))))
  (.seq (.seq (.ops [S 32 (.mv (.t 2)),
    S 33 (.bin .neq .none (.t 32) (xI 0))])
  (.cond (.t 33)
   (.seq (.ops [S 34 (.mv (.t 1)),
     S 35 (.mv (.t 2)),
     S 36 (.bin .rem .none (.t 34) (.t 35)),
     S 6 (.mv (.t 36)),
     S 7 (.mv (xB true))])
   (.ret))
   (.skip)))
  (.exit 0)))))
 (.seq (.ops [S 6 (.mv (xI 0)),
   S 7 (.mv (xB false))])
 (.ret))),
 [.tmp 6, .tmp 7], false, false, false⟩

def progList : List (Nat × DFn) := [(n_sibyllaw14_RunsNil, d_sibyllaw14_RunsNil), (n_runs_Runs_Feed, d_runs_Runs_Feed), (n_sibyllaw14_RunsNil_1, d_sibyllaw14_RunsNil_1), (n_sibyllaw14_awake, d_sibyllaw14_awake), (n_runs_Runs_End, d_runs_Runs_End), (n_runs_Runs_Count, d_runs_Runs_Count), (n_runs_Runs_Misses, d_runs_Runs_Misses), (n_runs_Runs_Lost, d_runs_Runs_Lost), (n_runs_New, d_runs_New), (n_slices_Clone, d_slices_Clone), (n_runs_Runs_grow, d_runs_Runs_grow), (n_runs_Runs_Feed_1, d_runs_Runs_Feed_1), (n_step_Done, d_step_Done), (n_runs_mapped, d_runs_mapped), (n_runs_Runs_Feed_2, d_runs_Runs_Feed_2), (n_runs_Runs_found, d_runs_Runs_found), (n_chain_Chain_Push, d_chain_Chain_Push), (n_chain_Chain_Keep, d_chain_Chain_Keep), (n_chain_Chain_Drop, d_chain_Chain_Drop), (n_slices_SortStableFunc, d_slices_SortStableFunc), (n_runs_Runs_Feed_3, d_runs_Runs_Feed_3), (n_tuple_Compare, d_tuple_Compare), (n_sibyllaw14_feed, d_sibyllaw14_feed), (n_slices_SortFunc, d_slices_SortFunc), (n_runs_Runs_End_1, d_runs_Runs_End_1), (n_cmp_Or, d_cmp_Or), (n_cmp_Compare, d_cmp_Compare), (n_table_Right, d_table_Right), (n_chain_New, d_chain_New), (n_runs_Runs_grow_1, d_runs_Runs_grow_1), (n_tuple_Flat, d_tuple_Flat), (n_runs_shifted, d_runs_shifted), (n_step_Step, d_step_Step), (n_step_Start, d_step_Start), (n_runs_Runs_found_1, d_runs_Runs_found_1), (n_runs_mapped_38, d_runs_mapped_38), (n_runs_Runs_found_2, d_runs_Runs_found_2), (n_runs_mapped_40, d_runs_mapped_40), (n_runs_Runs_found_2_1, d_runs_Runs_found_2_1), (n_runs_mapped_42, d_runs_mapped_42), (n_runs_Runs_found_3, d_runs_Runs_found_3), (n_chain_Chain_at, d_chain_Chain_at), (n_slices_stableCmpFunc, d_slices_stableCmpFunc), (n_slices_CompareFunc, d_slices_CompareFunc), (n_tuple_Compare_1, d_tuple_Compare_1), (n_slices_Compare, d_slices_Compare), (n_sibyllaw14_feed_1, d_sibyllaw14_feed_1), (n_sibyllaw14_stamp, d_sibyllaw14_stamp), (n_slices_pdqsortCmpFunc, d_slices_pdqsortCmpFunc), (n_math_bits_Len, d_math_bits_Len), (n_cmp_isNaN, d_cmp_isNaN), (n_table_Right_1, d_table_Right_1), (n_table_typed, d_table_typed), (n_table_may, d_table_may), (n_slices_ContainsFunc, d_slices_ContainsFunc), (n_slices_Concat, d_slices_Concat), (n_runs_shifted_1, d_runs_shifted_1), (n_runs_shifted_1_1, d_runs_shifted_1_1), (n_step_Fits, d_step_Fits), (n_step_Step_1, d_step_Step_1), (n_step_copied, d_step_copied), (n_step_barred, d_step_barred), (n_step_takes, d_step_takes), (n_step_with, d_step_with), (n_slices_insertionSortCmpFunc, d_slices_insertionSortCmpFunc), (n_slices_symMergeCmpFunc, d_slices_symMergeCmpFunc), (n_slices_insertionSortCmpFunc_69, d_slices_insertionSortCmpFunc_69), (n_slices_heapSortCmpFunc, d_slices_heapSortCmpFunc), (n_slices_breakPatternsCmpFunc, d_slices_breakPatternsCmpFunc), (n_slices_choosePivotCmpFunc, d_slices_choosePivotCmpFunc), (n_slices_reverseRangeCmpFunc, d_slices_reverseRangeCmpFunc), (n_slices_partialInsertionSortCmpFunc, d_slices_partialInsertionSortCmpFunc), (n_slices_partitionEqualCmpFunc, d_slices_partitionEqualCmpFunc), (n_slices_partitionCmpFunc, d_slices_partitionCmpFunc), (n_math_bits_Len32, d_math_bits_Len32), (n_math_bits_Len64, d_math_bits_Len64), (n_table_may_1, d_table_may_1), (n_table_named, d_table_named), (n_slices_ContainsFunc_81, d_slices_ContainsFunc_81), (n_slices_Concat_82, d_slices_Concat_82), (n_slices_IndexFunc, d_slices_IndexFunc), (n_slices_Grow, d_slices_Grow), (n_slices_Clone_85, d_slices_Clone_85), (n_step_barred_1, d_step_barred_1), (n_pred_All, d_pred_All), (n_step_sets, d_step_sets), (n_slices_rotateCmpFunc, d_slices_rotateCmpFunc), (n_slices_siftDownCmpFunc, d_slices_siftDownCmpFunc), (n_slices_nextPowerOfTwo, d_slices_nextPowerOfTwo), (n_slices_xorshift_Next, d_slices_xorshift_Next), (n_slices_medianAdjacentCmpFunc, d_slices_medianAdjacentCmpFunc), (n_slices_medianCmpFunc, d_slices_medianCmpFunc), (n_slices_IndexFunc_95, d_slices_IndexFunc_95), (n_slices_Grow_96, d_slices_Grow_96), (n_pred_Holds, d_pred_Holds), (n_slices_swapRangeCmpFunc, d_slices_swapRangeCmpFunc), (n_slices_order2CmpFunc, d_slices_order2CmpFunc), (n_pred_Eval, d_pred_Eval), (n_num_Test, d_num_Test), (n_pred_Eval_1, d_pred_Eval_1), (n_pred_Eval_2, d_pred_Eval_2), (n_pred_last, d_pred_last), (n_num_Do, d_num_Do)]
end Dk.U
