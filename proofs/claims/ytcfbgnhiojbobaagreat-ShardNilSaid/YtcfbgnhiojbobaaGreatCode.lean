/- D's code of the functions, printed by a program of mine (DPrint). -/
import Derived.Test.YtcfbgnhiojbobaaGreatEk4
set_option linter.unusedVariables false
set_option linter.unusedSimpArgs false
set_option linter.unusedSectionVars false
namespace Dk.S
open Go Dk
abbrev n_sibyllaw17_ShardNil : Nat := 4
abbrev n_runs_Runs_Feed : Nat := 5
abbrev n_runs_New : Nat := 12
abbrev n_shard_Shard_Apply : Nat := 13
abbrev n_sibyllaw17_awake : Nat := 15
abbrev n_shard_Shard_Runs : Nat := 16
abbrev n_shard_Shard_Misses : Nat := 17
abbrev n_shard_Shard_Roll : Nat := 18
abbrev n_shard_New : Nat := 19
abbrev n_runs_Runs_grow : Nat := 21
abbrev n_runs_Runs_Feed_1 : Nat := 22
abbrev n_step_Done : Nat := 23
abbrev n_runs_mapped : Nat := 24
abbrev n_runs_Runs_found : Nat := 26
abbrev n_slices_SortStableFunc : Nat := 30
abbrev n_table_Right : Nat := 38
abbrev n_chain_New : Nat := 39
abbrev n_shard_Shard_register : Nat := 40
abbrev n_shard_Shard_publish : Nat := 42
abbrev n_sibyllaw17_world : Nat := 43
abbrev n_sibyllaw17_World_apply : Nat := 44
abbrev n_sibylref06_Compare : Nat := 45
abbrev n_shard_within : Nat := 46
abbrev n_tuple_Flat : Nat := 48
abbrev n_step_Start : Nat := 51
abbrev n_runs_Runs_found_1 : Nat := 52
abbrev n_runs_mapped_53 : Nat := 53
abbrev n_runs_Runs_found_2 : Nat := 54
abbrev n_runs_mapped_55 : Nat := 55
abbrev n_runs_Runs_found_2_1 : Nat := 56
abbrev n_runs_mapped_57 : Nat := 57
abbrev n_runs_Runs_found_3 : Nat := 58
abbrev n_slices_stableCmpFunc : Nat := 60
abbrev n_table_typed : Nat := 70
abbrev n_table_may : Nat := 71
abbrev n_slices_ContainsFunc : Nat := 72
abbrev n_roll_Roll_Len : Nat := 73
abbrev n_roll_Roll_Add : Nat := 74
abbrev n_roll_Roll_Live : Nat := 76
abbrev n_route_Owner : Nat := 77
abbrev n_sibyllaw17_Spec_config : Nat := 78
abbrev n_sibylref06_row : Nat := 79
abbrev n_slices_Concat : Nat := 80
abbrev n_step_takes : Nat := 87
abbrev n_slices_insertionSortCmpFunc : Nat := 89
abbrev n_slices_IndexFunc : Nat := 105
abbrev n_roll_Roll_all : Nat := 106
abbrev n_roll_Roll_Live_1 : Nat := 109
abbrev n_route_Shard : Nat := 110
abbrev n_sibyllaw17_rest : Nat := 111
abbrev n_slices_Grow : Nat := 112
abbrev n_pred_All : Nat := 115
abbrev n_step_sets : Nat := 116
abbrev n_route_Mix : Nat := 127
abbrev n_route_Mix_1 : Nat := 131
/- sibyl/sibyllaw17.ShardNil -/
def d_sibyllaw17_ShardNil : DFn := ⟨2,
 .seq (.ops [S 2 (.box true 7 (.t 0)),
   S 4 (.mv (xB false))])
 (.seq (.ops [S 5 (.mv (.v .nilp))])
 (.seq (.ops [S 9 (.build [(eI 0), (eI 0), (eI 0), (eI 0), (eI 0), (eI 0), (eI 0), (.full []), (.full [])] []),
   S 10 (.box true 9 (.t 9)),
   S 6 (.mv (.t 10))])
 (.seq (.ops [S 11 (.mv (.t 5)),
   S 12 (.build [(eI 0), (eI 0), (eI 0), (eI 0), (eI 0), (eI 0), (eI 0), (eI 0), (eI 0), (eI 0), (eI 0), (.full []), (eI 0), (eB false)] [(0, 1, (xI 1))]),
   S 13 (.mv (.t 6)),
   S 14 (.mkf (.func 14) [(.t 13)] []),
   S 15 (.call n_shard_Shard_Apply [(.t 11), (xI 1), (.t 12), (.t 14)]),
   S 7 (.new true [(.full []), (.full []), (.full []), (.full [])]),
   E (.st 4 (.t 7) (.t 15))])
 (.seq (.ops [S 16 (.fld 0 (.t 2)),
   S 17 (.ld false 1 (.t 16)),
   S 18 (.bin .geq .none (.t 17) (xI 1)),
   S 19 (.mv (.t 18)),
   ⟨(some 20), .fld 0 (.t 2), (some (19, true)), []⟩,
   ⟨(some 21), .ld false 1 (.t 20), (some (19, true)), []⟩,
   ⟨(some 22), .bin .leq .none (.t 21) (xI 15), (some (19, true)), []⟩,
   S 23 (.pick (.t 19) (.t 22) (xB false)),
   S 24 (.mv (.t 23)),
   ⟨(some 25), .mv (.t 1), (some (24, true)), []⟩,
   ⟨(some 26), .bin .geq .none (.t 25) (xI 0), (some (24, true)), []⟩,
   S 27 (.pick (.t 24) (.t 26) (xB false)),
   S 28 (.mv (.t 27)),
   ⟨(some 29), .mv (.t 1), (some (28, true)), []⟩,
   ⟨(some 30), .fld 0 (.t 2), (some (28, true)), []⟩,
   ⟨(some 31), .ld false 1 (.t 30), (some (28, true)), []⟩,
   ⟨(some 32), .bin .lss .none (.t 29) (.t 31), (some (28, true)), []⟩,
   S 33 (.pick (.t 28) (.t 32) (xB false)),
   S 34 (.mv (.t 33)),
   ⟨(some 35), .fld 4 (.t 2), (some (34, true)), []⟩,
   ⟨(some 36), .ld false 1 (.t 35), (some (34, true)), []⟩,
   ⟨(some 37), .bin .geq .none (.t 36) (xI 1), (some (34, true)), []⟩,
   S 38 (.pick (.t 34) (.t 37) (xB false)),
   S 39 (.mv (.t 38)),
   ⟨(some 40), .fld 4 (.t 2), (some (39, true)), []⟩,
   ⟨(some 41), .ld false 1 (.t 40), (some (39, true)), []⟩,
   ⟨(some 42), .bin .leq .none (.t 41) (xI 4096), (some (39, true)), []⟩,
   S 43 (.pick (.t 39) (.t 42) (xB false)),
   S 44 (.mv (.t 43)),
   ⟨(some 45), .fld 3 (.t 2), (some (44, true)), []⟩,
   ⟨(some 46), .ld false 1 (.t 45), (some (44, true)), []⟩,
   ⟨(some 47), .bin .geq .none (.t 46) (xI 1), (some (44, true)), []⟩,
   S 48 (.pick (.t 44) (.t 47) (xB false)),
   S 49 (.mv (.t 48)),
   ⟨(some 50), .fld 3 (.t 2), (some (49, true)), []⟩,
   ⟨(some 51), .ld false 1 (.t 50), (some (49, true)), []⟩,
   ⟨(some 52), .bin .leq .none (.t 51) (xI 4096), (some (49, true)), []⟩,
   S 53 (.pick (.t 49) (.t 52) (xB false)),
   S 8 (.mv (.t 53))])
 (.seq (.ops [S 54 (.call n_sibyllaw17_awake []),
   S 55 (.mv (.t 54)),
   ⟨(some 56), .fld 0 (.t 7), (some (55, true)), []⟩,
   ⟨(some 57), .ld false 1 (.t 56), (some (55, true)), []⟩,
   ⟨(some 58), .len 0 (.t 57), (some (55, true)), []⟩,
   ⟨(some 59), .fld 2 (.t 7), (some (55, true)), []⟩,
   ⟨(some 60), .ld false 1 (.t 59), (some (55, true)), []⟩,
   ⟨(some 61), .len 0 (.t 60), (some (55, true)), []⟩,
   ⟨(some 62), .bin .add .none (.t 58) (.t 61), (some (55, true)), []⟩,
   ⟨(some 63), .fld 3 (.t 7), (some (55, true)), []⟩,
   ⟨(some 64), .ld false 1 (.t 63), (some (55, true)), []⟩,
   ⟨(some 65), .len 0 (.t 64), (some (55, true)), []⟩,
   ⟨(some 66), .bin .add .none (.t 62) (.t 65), (some (55, true)), []⟩,
   ⟨(some 67), .fld 1 (.t 7), (some (55, true)), []⟩,
   ⟨(some 68), .ld false 1 (.t 67), (some (55, true)), []⟩,
   ⟨(some 69), .len 0 (.t 68), (some (55, true)), []⟩,
   ⟨(some 70), .bin .add .none (.t 66) (.t 69), (some (55, true)), []⟩,
   ⟨(some 71), .bin .eql .none (.t 70) (xI 0), (some (55, true)), []⟩,
   S 72 (.pick (.t 55) (.t 71) (xB false)),
   S 73 (.mv (.t 72)),
   ⟨(some 74), .mv (.t 5), (some (73, true)), []⟩,
   ⟨(some 75), .call n_shard_Shard_Runs [(.t 74)], (some (73, true)), []⟩,
   ⟨(some 76), .mv (.t 5), (some (73, true)), []⟩,
   ⟨(some 77), .call n_shard_Shard_Misses [(.t 76)], (some (73, true)), []⟩,
   ⟨(some 78), .bin .add .none (.t 75) (.t 77), (some (73, true)), []⟩,
   ⟨(some 79), .bin .eql .none (.t 78) (xI 0), (some (73, true)), []⟩,
   S 80 (.pick (.t 73) (.t 79) (xB false)),
   S 81 (.mv (.t 80)),
   ⟨(some 82), .mv (.t 5), (some (81, true)), []⟩,
   ⟨(some 83), .call n_shard_Shard_Roll [(.t 82)], (some (81, true)), []⟩,
   ⟨(some 84), .bin .eql .ptr (.t 83) (.v .nilp), (some (81, true)), []⟩,
   S 85 (.pick (.t 81) (.t 84) (xB false)),
   S 86 (.mv (.t 85)),
   ⟨(some 87), .ld true 7 (.t 2), (some (86, true)), []⟩,
   ⟨(some 88), .mv (.t 1), (some (86, true)), []⟩,
   ⟨(some 89), .call n_shard_New [(.t 87), (.t 88)], (some (86, true)), []⟩,
   ⟨(some 90), .bin .neq .ptr (.t 89) (.v .nilp), (some (86, true)), []⟩,
   ⟨(some 91), .mv (.t 8), (some (86, true)), []⟩,
   ⟨(some 92), .bin .eql .bool (.t 90) (.t 91), (some (86, true)), []⟩,
   S 93 (.pick (.t 86) (.t 92) (xB false)),
   S 4 (.mv (.t 93))])
 (.ret)))))),
 [.tmp 4], false, true, false⟩
/- (*sibyl/runs.Runs).Feed -/
def d_runs_Runs_Feed : DFn := ⟨5,
 .seq (.ops [S 5 (.box false 1 (.t 0)),
   S 7 (.box true 2 (.t 2)),
   S 8 (.box true 6 (.t 3)),
   S 10 (.new true [(.full []), (.full []), (.full []), (eB false)])])
 (.seq (.seq (.ops [S 28 (.ld false 1 (.t 5)),
   S 29 (.bin .eql .ptr (.t 28) (.v .nilp)),
   S 30 (.mv (.t 29)),
   ⟨(some 31), .ld false 1 (.t 5), (some (30, false)), []⟩,
   ⟨(some 32), .nz (.t 31), (some (30, false)), []⟩,
   ⟨(some 33), .fld 6 (.t 32), (some (30, false)), []⟩,
   ⟨(some 34), .ld false 1 (.t 33), (some (30, false)), []⟩,
   S 35 (.pick (.t 30) (xB true) (.t 34))])
 (.cond (.t 35)
  (.seq (.ops [S 36 (.build [(.full []), (.full []), (.full []), (eB false)] []),
    E (.st 4 (.t 10) (.t 36))])
  (.ret))
  (.skip)))
 (.seq (.ops [S 11 (.mv (xI 0))])
 (.seq (.seq (.ops [S 37 (.ld false 1 (.t 5)),
   S 38 (.nz (.t 37)),
   S 39 (.fld 0 (.t 38)),
   S 40 (.fld 2 (.t 39)),
   S 41 (.ld false 1 (.t 40))])
 (.cond (.t 41)
  (.ops [S 42 (.fld 1 (.t 8)),
    S 43 (.ld false 1 (.t 42)),
    S 11 (.mv (.t 43))])
  (.skip)))
 (.seq (.ops [S 44 (.ld false 1 (.t 5)),
   S 45 (.nz (.t 44)),
   S 46 (.fld 5 (.t 45)),
   S 47 (.ld false 1 (.t 46)),
   S 48 (.mv (.t 11)),
   S 49 (.look .int .nilp false (.t 47) (.t 48)),
   S 12 (.mv (.t 49))])
 (.seq (.seq (.ops [S 50 (.mv (.t 12)),
   S 51 (.bin .eql .ptr (.t 50) (.v .nilp))])
 (.cond (.t 51)
  (.seq (.ops [S 52 (.build [(eI 0), (.full []), (.full [])] []),
    S 53 (.box true 3 (.t 52)),
    S 12 (.mv (.t 53))])
  (.ops [S 54 (.ld false 1 (.t 5)),
    S 55 (.nz (.t 54)),
    S 56 (.fld 5 (.t 55)),
    S 57 (.ld false 1 (.t 56)),
    S 58 (.mv (.t 11)),
    S 59 (.mv (.t 12)),
    E (.upd .int (.t 57) (.t 58) (.t 59))]))
  (.skip)))
 (.seq (.ops [S 60 (.mv (.t 12)),
   S 61 (.nz (.t 60)),
   S 62 (.fld 0 (.t 61)),
   S 63 (.ld false 1 (.t 62)),
   S 64 (.bin .add .none (.t 63) (xI 1)),
   S 65 (.nz (.t 60)),
   S 66 (.fld 0 (.t 65)),
   E (.st 1 (.t 66) (.t 64))])
 (.seq (.ops [S 67 (.mv (.t 12)),
   S 68 (.mv (.t 12)),
   S 69 (.nz (.t 68)),
   S 70 (.fld 1 (.t 69)),
   S 71 (.ld false 1 (.t 70)),
   S 72 (.mv (.t 1)),
   S 73 (.ld true 2 (.t 7)),
   S 74 (.build [(eI 0), (eI 0), (eI 0)] [(0, 1, (.t 72)), (1, 2, (.t 73))]),
   S 75 (.lit 3 true [[(eI 0), (eI 0), (eI 0)]] [(0, (.t 74))]),
   S 76 (.app 3 true 24 (.t 71) (.t 75)),
   S 77 (.nz (.t 67)),
   S 78 (.fld 1 (.t 77)),
   E (.st 1 (.t 78) (.t 76))])
 (.seq (.seq (.ops [S 79 (.mv (.t 12)),
   S 80 (.nz (.t 79)),
   S 81 (.fld 1 (.t 80)),
   S 82 (.ld false 1 (.t 81)),
   S 83 (.len 0 (.t 82)),
   S 84 (.bin .gtr .none (.t 83) (xI 8))])
 (.cond (.t 84)
  (.ops [S 85 (.mv (.t 12)),
    S 86 (.mv (.t 12)),
    S 87 (.nz (.t 86)),
    S 88 (.fld 1 (.t 87)),
    S 89 (.ld false 1 (.t 88)),
    S 90 (.slc 3 (.t 89) (some (xI 1)) none none),
    S 91 (.call 20 [(.t 90)]),
    S 92 (.nz (.t 85)),
    S 93 (.fld 1 (.t 92)),
    E (.st 1 (.t 93) (.t 91))])
  (.skip)))
 (.seq (.ops [S 94 (.ld false 1 (.t 5)),
   S 95 (.mv (.t 12)),
   S 96 (.ld true 6 (.t 8)),
   S 97 (.mv (.t 4)),
   S 98 (.call n_runs_Runs_grow [(.t 94), (.t 95), (.t 96), (.t 97)]),
   S 13 (.mv (.t 98))])
 (.seq (.ops [S 99 (.mkf (.func n_runs_Runs_Feed_1) [] [(.t 5)]),
   S 14 (.mv (.t 99))])
 (.seq (.ops [S 15 (.mv (xI 0))])
 (.seq (.seq (.ops [S 100 (.mv (.t 13)),
   S 101 (.len 0 (.t 100)),
   S 102 (.mv (xI 0))])
 (.block 0 (.loop [1, 5, 7, 10, 12, 13, 14, 15, 100, 101, 102] (.seq (.ops [S 103 (.bin .lss .none (.t 102) (.t 101))])
   (.seq (.cond (.t 103)
    (.skip)
    (.exit 0))
   (.seq (.block 1 (.seq (.ops [S 104 (.ixa 6 (.t 100) (.t 102)),
      S 105 (.ld true 6 (.t 104)),
      S 17 (.new true [(eI 0), (.full []), (eB false), (eI 0), (eI 0), (eB false)]),
      E (.st 6 (.t 17) (.t 105))])
    (.seq (.ops [S 106 (.mv (.t 14)),
      S 107 (.ld true 6 (.t 17)),
      S 108 (.callv (.t 106) [(.t 107)])])
    (.cond (.t 108)
     (.ops [S 109 (.mv (.t 15)),
       S 110 (.bin .add .none (.t 109) (xI 1)),
       S 15 (.mv (.t 110))])
     (.skip)))))
   (.ops [S 111 (.bin .add .none (.t 102) (xI 1)),
     S 102 (.mv (.t 111))])))))))
 (.seq (.seq (.ops [S 112 (.mv (.t 15)),
   S 113 (.ld false 1 (.t 5)),
   S 114 (.nz (.t 113)),
   S 115 (.fld 3 (.t 114)),
   S 116 (.ld false 1 (.t 115)),
   S 117 (.bin .gtr .none (.t 112) (.t 116))])
 (.cond (.t 117)
  (.seq (.ops [S 118 (.ld false 1 (.t 5)),
    S 119 (.nz (.t 118)),
    S 120 (.fld 6 (.t 119)),
    E (.st 1 (.t 120) (xB true))])
  (.seq (.ops [S 121 (.ld false 1 (.t 5)),
    S 122 (.call 8 [(.t 121)]),
    S 123 (.build [(.full []), (.full []), (.full []), (eB false)] [(2, 1, (.t 122)), (3, 1, (xB true))]),
    E (.st 4 (.t 10) (.t 123))])
  (.ret)))
  (.skip)))
 (.seq (.ops [S 18 (.new true [(.full []), (.full []), (.full []), (eB false)])])
 (.seq (.ops [S 124 (.mv (.t 12)),
   S 125 (.nz (.t 124)),
   S 126 (.fld 2 (.t 125)),
   S 127 (.ld false 1 (.t 126)),
   S 128 (.call n_runs_mapped [(.t 127), (.v (.fn (.func 25) [] []))]),
   S 19 (.mv (.t 128))])
 (.seq (.ops [S 129 (.mv (.t 12)),
   S 130 (.nz (.t 129)),
   S 131 (.fld 2 (.t 130)),
   E (.st 1 (.t 131) (.v (.full [])))])
 (.seq (.seq (.ops [S 132 (.mv (.t 13)),
   S 133 (.len 0 (.t 132)),
   S 134 (.mv (xI 0))])
 (.block 2 (.loop [1, 5, 7, 10, 12, 14, 18, 19, 132, 133, 134] (.seq (.ops [S 135 (.bin .lss .none (.t 134) (.t 133))])
   (.seq (.cond (.t 135)
    (.skip)
    (.exit 2))
   (.seq (.block 3 (.seq (.ops [S 136 (.ixa 6 (.t 132) (.t 134)),
      S 137 (.ld true 6 (.t 136)),
      S 21 (.new true [(eI 0), (.full []), (eB false), (eI 0), (eI 0), (eB false)]),
      E (.st 6 (.t 21) (.t 137))])
    (.seq (.seq (.ops [S 138 (.fld 5 (.t 21)),
      S 139 (.ld false 1 (.t 138)),
      S 140 (.mv (.t 139)),
      ⟨(some 141), .ld false 1 (.t 5), (some (140, true)), []⟩,
      ⟨(some 142), .nz (.t 141), (some (140, true)), []⟩,
      ⟨(some 143), .fld 0 (.t 142), (some (140, true)), []⟩,
      ⟨(some 144), .ld true 3 (.t 143), (some (140, true)), []⟩,
      ⟨(some 145), .fld 0 (.t 21), (some (140, true)), []⟩,
      ⟨(some 146), .fld 0 (.t 145), (some (140, true)), []⟩,
      ⟨(some 147), .ld true 3 (.t 146), (some (140, true)), []⟩,
      ⟨(some 148), .call n_step_Done [(.t 144), (.t 147)], (some (140, true)), []⟩,
      S 149 (.pick (.t 140) (.t 148) (xB false))])
    (.cond (.t 149)
     (.ops [S 150 (.fld 0 (.t 18)),
       S 151 (.ld false 1 (.t 150)),
       S 152 (.ld false 1 (.t 5)),
       S 153 (.mv (.t 12)),
       S 154 (.fld 0 (.t 21)),
       S 155 (.fld 0 (.t 154)),
       S 156 (.fld 1 (.t 155)),
       S 157 (.ld false 1 (.t 156)),
       ⟨(some 158), .call n_runs_Runs_found [(.t 152), (.t 153), (.t 157)], none, [(151, .ld false 1 (.t 150), none)]⟩,
       S 159 (.lit 2 true [[(.full []), (.full [])]] [(0, (.t 158))]),
       S 160 (.app 2 true 48 (.t 151) (.t 159)),
       S 161 (.fld 0 (.t 18)),
       E (.st 1 (.t 161) (.t 160))])
     (.skip)))
    (.seq (.seq (.ops [S 162 (.mv (.t 14)),
      S 163 (.ld true 6 (.t 21)),
      S 164 (.callv (.t 162) [(.t 163)]),
      S 165 (.un .not (.t 164))])
    (.cond (.t 165)
     (.exit 3)
     (.skip)))
    (.seq (.seq (.ops [S 166 (.fld 5 (.t 21)),
      S 167 (.ld false 1 (.t 166))])
    (.cond (.t 167)
     (.seq (.ops [S 169 (.ld false 1 (.t 5)),
       S 170 (.nz (.t 169)),
       S 171 (.fld 4 (.t 170)),
       S 172 (.ld false 1 (.t 171)),
       S 173 (.fld 4 (.t 21)),
       S 174 (.ld false 1 (.t 173)),
       S 175 (.fld 0 (.t 21)),
       S 176 (.fld 0 (.t 175)),
       S 177 (.fld 0 (.t 176)),
       S 178 (.ld false 1 (.t 177)),
       S 179 (.mv (.t 1)),
       S 180 (.ld true 2 (.t 7)),
       S 181 (.call 27 [(.t 172), (.t 174), (.t 178), (.t 179), (.t 180)]),
       S 168 (.mv (.t 181)),
       S 182 (.ext (.t 168) 0),
       S 183 (.ext (.t 168) 1),
       S 184 (.fld 0 (.t 21)),
       S 185 (.fld 3 (.t 184)),
       E (.st 1 (.t 185) (.t 182))])
     (.ops [S 186 (.fld 1 (.t 18)),
       S 187 (.ld false 1 (.t 186)),
       S 188 (.ld true 2 (.t 7)),
       S 189 (.lit 2 true [[(eI 0), (eI 0)]] [(0, (.t 188))]),
       S 190 (.app 2 true 16 (.t 187) (.t 189)),
       S 191 (.fld 1 (.t 18)),
       E (.st 1 (.t 191) (.t 190))]))
     (.ops [S 192 (.ld false 1 (.t 5)),
       S 193 (.nz (.t 192)),
       S 194 (.fld 4 (.t 193)),
       S 195 (.ld false 1 (.t 194)),
       S 196 (.fld 0 (.t 21)),
       S 197 (.fld 3 (.t 196)),
       S 198 (.ld false 1 (.t 197)),
       S 199 (.call 28 [(.t 195), (.t 198)])])))
    (.ops [S 200 (.mv (.t 12)),
      S 201 (.mv (.t 12)),
      S 202 (.nz (.t 201)),
      S 203 (.fld 2 (.t 202)),
      S 204 (.ld false 1 (.t 203)),
      S 205 (.fld 0 (.t 21)),
      S 206 (.ld true 4 (.t 205)),
      S 207 (.lit 4 true [[(eI 0), (.full []), (eB false), (eI 0)]] [(0, (.t 206))]),
      S 208 (.app 4 true 48 (.t 204) (.t 207)),
      S 209 (.nz (.t 200)),
      S 210 (.fld 2 (.t 209)),
      E (.st 1 (.t 210) (.t 208))]))))))
   (.ops [S 211 (.bin .add .none (.t 134) (xI 1)),
     S 134 (.mv (.t 211))])))))))
 (.seq (.seq (.ops [S 212 (.mv (.t 19)),
   S 213 (.len 0 (.t 212)),
   S 214 (.mv (xI 0))])
 (.block 4 (.loop [5, 10, 18, 212, 213, 214] (.seq (.ops [S 215 (.bin .lss .none (.t 214) (.t 213))])
   (.seq (.cond (.t 215)
    (.skip)
    (.exit 4))
   (.seq (.block 5 (.seq (.ops [S 216 (.ixa 1 (.t 212) (.t 214)),
      S 217 (.ld false 1 (.t 216)),
      S 23 (.mv (.t 217))])
    (.seq (.ops [S 219 (.ld false 1 (.t 5)),
      S 220 (.nz (.t 219)),
      S 221 (.fld 4 (.t 220)),
      S 222 (.ld false 1 (.t 221)),
      S 223 (.mv (.t 23)),
      S 224 (.call 29 [(.t 222), (.t 223)]),
      S 218 (.mv (.t 224)),
      S 225 (.ext (.t 218) 0),
      S 226 (.ext (.t 218) 1),
      S 24 (.mv (.t 225)),
      S 25 (.mv (.t 226))])
    (.ops [S 227 (.fld 2 (.t 18)),
      S 228 (.ld false 1 (.t 227)),
      S 229 (.mv (.t 24)),
      S 230 (.app 2 true 16 (.t 228) (.t 229)),
      S 231 (.fld 2 (.t 18)),
      E (.st 1 (.t 231) (.t 230))]))))
   (.ops [S 232 (.bin .add .none (.t 214) (xI 1)),
     S 214 (.mv (.t 232))])))))))
 (.seq (.ops [S 233 (.fld 0 (.t 18)),
   S 234 (.ld false 1 (.t 233)),
   S 235 (.call n_slices_SortStableFunc [(.t 234), (.v (.fn (.func 31) [] []))])])
 (.seq (.seq (.ops [S 236 (.fld 0 (.t 18)),
   S 237 (.ld false 1 (.t 236)),
   S 238 (.len 0 (.t 237)),
   S 239 (.mv (xI 0))])
 (.block 6 (.loop [10, 18, 237, 238, 239] (.seq (.ops [S 240 (.bin .lss .none (.t 239) (.t 238))])
   (.seq (.cond (.t 240)
    (.skip)
    (.exit 6))
   (.seq (.block 7 (.seq (.ops [S 241 (.ixa 2 (.t 237) (.t 239)),
      S 242 (.ld true 2 (.t 241)),
      S 27 (.new true [(.full []), (.full [])]),
      E (.st 2 (.t 27) (.t 242))])
    (.ops [S 243 (.fld 1 (.t 18)),
      S 244 (.ld false 1 (.t 243)),
      S 245 (.fld 1 (.t 27)),
      S 246 (.ld false 1 (.t 245)),
      S 247 (.app 2 true 16 (.t 244) (.t 246)),
      S 248 (.fld 1 (.t 18)),
      E (.st 1 (.t 248) (.t 247))])))
   (.ops [S 249 (.bin .add .none (.t 239) (xI 1)),
     S 239 (.mv (.t 249))])))))))
 (.seq (.ops [S 250 (.ld true 4 (.t 18)),
   E (.st 4 (.t 10) (.t 250))])
 (.ret)))))))))))))))))))))),
 [.cell 10 true 4], false, false, false⟩
/- sibyl/runs.New -/
def d_runs_New : DFn := ⟨2,
 .seq (.ops [S 2 (.box true 3 (.t 0)),
   S 4 (.mv (.v .nilp))])
 (.seq (.seq (.ops [S 5 (.ld true 3 (.t 2)),
   S 6 (.call n_table_Right [(.t 5)]),
   S 7 (.un .not (.t 6)),
   S 8 (.mv (.t 7)),
   ⟨(some 9), .mv (.t 1), (some (8, false)), []⟩,
   ⟨(some 10), .bin .lss .none (.t 9) (xI 1), (some (8, false)), []⟩,
   S 11 (.pick (.t 8) (xB true) (.t 10)),
   S 12 (.mv (.t 11)),
   ⟨(some 13), .mv (.t 1), (some (12, false)), []⟩,
   ⟨(some 14), .bin .gtr .none (.t 13) (xI 4096), (some (12, false)), []⟩,
   S 15 (.pick (.t 12) (xB true) (.t 14))])
 (.cond (.t 15)
  (.seq (.ops [S 4 (.mv (.v .nilp))])
  (.ret))
  (.skip)))
 (.seq (.ops [S 16 (.ld true 3 (.t 2)),
   S 17 (.mv (.t 1)),
   S 19 (.mkmap),
   ⟨(some 18), .call n_chain_New [], none, [(16, .ld true 3 (.t 2), none)]⟩,
   S 20 (.build [(.full []), (eI 0), (eB false), (eI 0), .nilp, .nilmap, (eB false), (eI 0)] [(0, 3, (.t 16)), (3, 1, (.t 17)), (4, 1, (.t 18)), (5, 1, (.t 19))]),
   S 21 (.box true 8 (.t 20)),
   S 4 (.mv (.t 21))])
 (.ret))),
 [.tmp 4], false, false, false⟩
/- (*sibyl/shard.Shard).Apply -/
def d_shard_Shard_Apply : DFn := ⟨4,
 .seq (.ops [S 6 (.box true 14 (.t 2)),
   S 8 (.new true [(.full []), (.full []), (.full []), (.full [])])])
 (.seq (.seq (.ops [S 10 (.mv (.t 0)),
   S 11 (.bin .eql .ptr (.t 10) (.v .nilp)),
   S 12 (.mv (.t 11)),
   ⟨(some 13), .mv (.t 1), (some (12, false)), []⟩,
   ⟨(some 14), .mv (.t 0), (some (12, false)), []⟩,
   ⟨(some 15), .nz (.t 14), (some (12, false)), []⟩,
   ⟨(some 16), .fld 8 (.t 15), (some (12, false)), []⟩,
   ⟨(some 17), .ld false 1 (.t 16), (some (12, false)), []⟩,
   ⟨(some 18), .bin .leq .none (.t 13) (.t 17), (some (12, false)), []⟩,
   S 19 (.pick (.t 12) (xB true) (.t 18))])
 (.cond (.t 19)
  (.seq (.ops [S 20 (.build [(.full []), (.full []), (.full []), (.full [])] []),
    E (.st 4 (.t 8) (.t 20))])
  (.ret))
  (.skip)))
 (.seq (.ops [S 21 (.mv (.t 0)),
   S 22 (.mv (.t 1)),
   S 23 (.nz (.t 21)),
   S 24 (.fld 8 (.t 23)),
   E (.st 1 (.t 24) (.t 22))])
 (.seq (.ops [S 9 (.mv (.v .nilf))])
 (.seq (.seq (.ops [S 25 (.fld 0 (.t 6)),
   S 26 (.ld false 1 (.t 25))])
 (.block 0 (.seq (.ops [S 29 (.bin .eql .none (.t 26) (xI 2)),
    S 28 (.mv (.t 29))])
  (.cond (.t 28)
   (.ops [S 9 (.mv (.v (.fn (.func 40) [] [])))])
   (.seq (.ops [S 31 (.bin .eql .none (.t 26) (xI 3)),
     S 30 (.mv (.t 31))])
   (.cond (.t 30)
    (.ops [S 9 (.mv (.v (.fn (.func 41) [] [])))])
    (.seq (.ops [S 33 (.bin .eql .none (.t 26) (xI 1)),
      S 32 (.mv (.t 33))])
    (.cond (.t 32)
     (.ops [S 9 (.mv (.v (.fn (.func 42) [] [])))])
     (.seq (.ops [S 27 (.build [(.full []), (.full []), (.full []), (.full [])] []),
       E (.st 4 (.t 8) (.t 27))])
     (.ret))))))))))
 (.seq (.ops [S 34 (.mv (.t 9)),
   S 35 (.mv (.t 0)),
   S 36 (.mv (.t 1)),
   S 37 (.ld true 14 (.t 6)),
   S 38 (.mv (.t 3)),
   S 39 (.callv (.t 34) [(.t 35), (.t 36), (.t 37), (.t 38)]),
   E (.st 4 (.t 8) (.t 39))])
 (.ret)))))),
 [.cell 8 true 4], false, false, false⟩
/- sibyl/sibyllaw17.awake -/
def d_sibyllaw17_awake : DFn := ⟨0,
 .seq (.ops [S 0 (.mv (xB false))])
 (.seq (.ops [S 3 (.build [(eI 0), (eI 0), (eI 0), (.full []), (.full [])] []),
   S 4 (.call n_sibyllaw17_world [(.t 3)]),
   S 1 (.mv (.t 4))])
 (.seq (.ops [S 5 (.mv (.t 1)),
   S 6 (.build [(eI 0), (eB false), (.full []), (.full [])] []),
   S 7 (.lit 4 true [[(eI 0), (eB false), (.full []), (.full [])]] [(0, (.t 6))]),
   S 8 (.build [(.full []), (eI 0), (eB false)] [(0, 1, (.t 7)), (1, 1, (xI 1))]),
   S 9 (.build [(eI 0), (eI 0), (eI 0), (eI 0), (eI 0), (eI 0), (eI 0), (eI 0), (eI 0), (eI 0), (eI 0), (.full []), (eI 0), (eB false)] [(0, 1, (xI 2)), (11, 3, (.t 8))]),
   S 10 (.call n_sibyllaw17_World_apply [(.t 5), (xI 1), (.t 9)])])
 (.seq (.ops [S 11 (.mv (.t 1)),
   S 12 (.build [(eI 0), (eI 0)] [(0, 1, (xI 2)), (1, 1, (xI 3))]),
   S 13 (.build [(eI 0), (eI 0), (eI 0), (eI 0), (eI 0), (eI 0), (eI 0), (eI 0), (eI 0), (eI 0), (eI 0), (.full []), (eI 0), (eB false)] [(0, 1, (xI 1)), (9, 2, (.t 12))]),
   S 14 (.call n_sibyllaw17_World_apply [(.t 11), (xI 2), (.t 13)]),
   S 2 (.mv (.t 14))])
 (.seq (.seq (.ops [S 15 (.mv (.t 2)),
   S 16 (.len 0 (.t 15)),
   S 17 (.bin .neq .none (.t 16) (xI 1)),
   S 18 (.mv (.t 17)),
   ⟨(some 19), .mv (.t 2), (some (18, false)), []⟩,
   ⟨(some 20), .ixa 4 (.t 19) (xI 0), (some (18, false)), []⟩,
   ⟨(some 21), .fld 0 (.t 20), (some (18, false)), []⟩,
   ⟨(some 22), .ld false 1 (.t 21), (some (18, false)), []⟩,
   ⟨(some 23), .len 0 (.t 22), (some (18, false)), []⟩,
   ⟨(some 24), .bin .neq .none (.t 23) (xI 1), (some (18, false)), []⟩,
   S 25 (.pick (.t 18) (xB true) (.t 24))])
 (.cond (.t 25)
  (.seq (.ops [S 0 (.mv (xB false))])
  (.ret))
  (.skip)))
 (.seq (.ops [S 26 (.mv (.t 2)),
   S 27 (.ixa 4 (.t 26) (xI 0)),
   S 28 (.fld 0 (.t 27)),
   S 29 (.ld false 1 (.t 28)),
   S 30 (.ixa 3 (.t 29) (xI 0)),
   S 31 (.fld 0 (.t 30)),
   S 32 (.ld false 1 (.t 31)),
   S 33 (.bin .eql .none (.t 32) (xI 1)),
   S 34 (.mv (.t 33)),
   ⟨(some 35), .mv (.t 2), (some (34, true)), []⟩,
   ⟨(some 36), .ixa 4 (.t 35) (xI 0), (some (34, true)), []⟩,
   ⟨(some 37), .fld 0 (.t 36), (some (34, true)), []⟩,
   ⟨(some 38), .ld false 1 (.t 37), (some (34, true)), []⟩,
   ⟨(some 39), .ixa 3 (.t 38) (xI 0), (some (34, true)), []⟩,
   ⟨(some 40), .fld 1 (.t 39), (some (34, true)), []⟩,
   ⟨(some 41), .fld 0 (.t 40), (some (34, true)), []⟩,
   ⟨(some 42), .ld false 1 (.t 41), (some (34, true)), []⟩,
   ⟨(some 43), .lit 1 false [[(eI 0)]] [(0, (xI 2))], (some (34, true)), []⟩,
   ⟨(some 44), .lit 1 false [[(.full [])]] [(0, (.t 43))], (some (34, true)), []⟩,
   ⟨(some 45), .call n_sibylref06_Compare [(.t 42), (.t 44)], (some (34, true)), []⟩,
   ⟨(some 46), .bin .eql .none (.t 45) (xI 0), (some (34, true)), []⟩,
   S 47 (.pick (.t 34) (.t 46) (xB false)),
   S 0 (.mv (.t 47))])
 (.ret)))))),
 [.tmp 0], false, true, false⟩
/- (*sibyl/shard.Shard).Runs -/
def d_shard_Shard_Runs : DFn := ⟨1,
 .seq (.ops [S 2 (.mv (xI 0))])
 (.seq (.seq (.ops [S 6 (.mv (.t 0)),
   S 7 (.bin .eql .ptr (.t 6) (.v .nilp))])
 (.cond (.t 7)
  (.seq (.ops [S 2 (.mv (xI 0))])
  (.ret))
  (.skip)))
 (.seq (.ops [S 3 (.mv (xI 0))])
 (.seq (.seq (.ops [E (.nz (.v .junk))])
 (.block 0 (.loop [3, 5, 14] (.seq (.ops [E (.nz (.v .junk))])
   (.seq (.cond (.t 14)
    (.skip)
    (.exit 0))
   (.block 1 (.seq (.ops [E (.nz (.v .junk))])
    (.ops [S 17 (.mv (.t 3)),
      S 18 (.mv (.t 5)),
      S 19 (.call 9 [(.t 18)]),
      S 20 (.bin .add .none (.t 17) (.t 19)),
      S 3 (.mv (.t 20))]))))))))
 (.seq (.ops [S 21 (.mv (.t 3)),
   S 2 (.mv (.t 21))])
 (.ret))))),
 [.tmp 2], false, true, false⟩
/- (*sibyl/shard.Shard).Misses -/
def d_shard_Shard_Misses : DFn := ⟨1,
 .seq (.ops [S 2 (.mv (xI 0))])
 (.seq (.seq (.ops [S 6 (.mv (.t 0)),
   S 7 (.bin .eql .ptr (.t 6) (.v .nilp))])
 (.cond (.t 7)
  (.seq (.ops [S 2 (.mv (xI 0))])
  (.ret))
  (.skip)))
 (.seq (.ops [S 8 (.mv (.t 0)),
   S 9 (.nz (.t 8)),
   S 10 (.fld 11 (.t 9)),
   S 11 (.ld false 1 (.t 10)),
   S 3 (.mv (.t 11))])
 (.seq (.seq (.ops [E (.nz (.v .junk))])
 (.block 0 (.loop [3, 5, 18] (.seq (.ops [E (.nz (.v .junk))])
   (.seq (.cond (.t 18)
    (.skip)
    (.exit 0))
   (.block 1 (.seq (.ops [E (.nz (.v .junk))])
    (.ops [S 21 (.mv (.t 3)),
      S 22 (.mv (.t 5)),
      S 23 (.call 10 [(.t 22)]),
      S 24 (.bin .add .none (.t 21) (.t 23)),
      S 3 (.mv (.t 24))]))))))))
 (.seq (.ops [S 25 (.mv (.t 3)),
   S 2 (.mv (.t 25))])
 (.ret))))),
 [.tmp 2], false, true, false⟩
/- (*sibyl/shard.Shard).Roll -/
def d_shard_Shard_Roll : DFn := ⟨1,
 .seq (.ops [S 2 (.mv (.v .nilp))])
 (.seq (.seq (.ops [S 3 (.mv (.t 0)),
   S 4 (.bin .eql .ptr (.t 3) (.v .nilp))])
 (.cond (.t 4)
  (.seq (.ops [S 2 (.mv (.v .nilp))])
  (.ret))
  (.skip)))
 (.seq (.ops [S 5 (.mv (.t 0)),
   S 6 (.nz (.t 5)),
   S 7 (.fld 9 (.t 6)),
   S 8 (.ld false 1 (.t 7)),
   S 2 (.mv (.t 8))])
 (.ret))),
 [.tmp 2], false, true, false⟩
/- sibyl/shard.New -/
def d_shard_New : DFn := ⟨2,
 .seq (.ops [S 2 (.box true 7 (.t 0)),
   S 4 (.mv (.v .nilp))])
 (.seq (.seq (.ops [S 5 (.fld 0 (.t 2)),
   S 6 (.ld false 1 (.t 5)),
   S 7 (.call n_shard_within [(.t 6), (xI 15)]),
   S 8 (.un .not (.t 7)),
   S 9 (.mv (.t 8)),
   ⟨(some 10), .fld 4 (.t 2), (some (9, false)), []⟩,
   ⟨(some 11), .ld false 1 (.t 10), (some (9, false)), []⟩,
   ⟨(some 12), .call n_shard_within [(.t 11), (xI 4096)], (some (9, false)), []⟩,
   ⟨(some 13), .un .not (.t 12), (some (9, false)), []⟩,
   S 14 (.pick (.t 9) (xB true) (.t 13)),
   S 15 (.mv (.t 14)),
   ⟨(some 16), .fld 3 (.t 2), (some (15, false)), []⟩,
   ⟨(some 17), .ld false 1 (.t 16), (some (15, false)), []⟩,
   ⟨(some 18), .call n_shard_within [(.t 17), (xI 4096)], (some (15, false)), []⟩,
   ⟨(some 19), .un .not (.t 18), (some (15, false)), []⟩,
   S 20 (.pick (.t 15) (xB true) (.t 19)),
   S 21 (.mv (.t 20)),
   ⟨(some 22), .mv (.t 1), (some (21, false)), []⟩,
   ⟨(some 23), .bin .lss .none (.t 22) (xI 0), (some (21, false)), []⟩,
   S 24 (.pick (.t 21) (xB true) (.t 23)),
   S 25 (.mv (.t 24)),
   ⟨(some 26), .mv (.t 1), (some (25, false)), []⟩,
   ⟨(some 27), .fld 0 (.t 2), (some (25, false)), []⟩,
   ⟨(some 28), .ld false 1 (.t 27), (some (25, false)), []⟩,
   ⟨(some 29), .bin .geq .none (.t 26) (.t 28), (some (25, false)), []⟩,
   S 30 (.pick (.t 25) (xB true) (.t 29))])
 (.cond (.t 30)
  (.seq (.ops [S 4 (.mv (.v .nilp))])
  (.ret))
  (.skip)))
 (.seq (.ops [S 31 (.ld true 7 (.t 2)),
   S 32 (.mv (.t 1)),
   S 33 (.mkmap),
   S 34 (.build [(eI 0), (eI 0), (eI 0), (eI 0), (eI 0), (eI 0), (eI 0), (eI 0), (eI 0), .nilp, .nilmap, (eI 0)] [(0, 7, (.t 31)), (7, 1, (.t 32)), (8, 1, (xI (-1))), (10, 1, (.t 33))]),
   S 35 (.box true 12 (.t 34)),
   S 4 (.mv (.t 35))])
 (.ret))),
 [.tmp 4], false, false, false⟩
/- (*sibyl/runs.Runs).grow -/
def d_runs_Runs_grow : DFn := ⟨4,
 .seq (.ops [S 4 (.box false 1 (.t 0)),
   S 5 (.box false 1 (.t 1)),
   S 6 (.box true 6 (.t 2)),
   S 7 (.box false 1 (.t 3)),
   S 8 (.nils 6 true)])
 (.seq (.ops [S 24 (.ld false 1 (.t 5)),
   S 25 (.nz (.t 24)),
   S 26 (.fld 0 (.t 25)),
   S 27 (.ld false 1 (.t 26)),
   S 28 (.bin .sub .none (.t 27) (xI 8)),
   S 29 (.mnx true (xI 0) (.t 28)),
   S 9 (.mv (.t 29))])
 (.seq (.ops [S 30 (.mkf (.func 47) [] [(.t 7), (.t 5), (.t 4)]),
   S 10 (.mv (.t 30))])
 (.seq (.ops [S 11 (.nils 6 true)])
 (.seq (.ops [S 31 (.ld false 1 (.t 5)),
   S 32 (.nz (.t 31)),
   S 33 (.fld 0 (.t 32)),
   S 34 (.ld false 1 (.t 33)),
   S 35 (.bin .sub .none (.t 34) (xI 1)),
   S 12 (.mv (.t 35))])
 (.seq (.seq (.ops [S 36 (.ld false 1 (.t 5)),
   S 37 (.nz (.t 36)),
   S 38 (.fld 2 (.t 37)),
   S 39 (.ld false 1 (.t 38)),
   S 40 (.len 0 (.t 39)),
   S 41 (.mv (xI 0))])
 (.block 0 (.loop [4, 5, 6, 9, 10, 11, 12, 39, 40, 41] (.seq (.ops [S 42 (.bin .lss .none (.t 41) (.t 40))])
   (.seq (.cond (.t 42)
    (.skip)
    (.exit 0))
   (.seq (.block 1 (.seq (.ops [S 43 (.ixa 4 (.t 39) (.t 41)),
      S 44 (.ld true 4 (.t 43)),
      S 14 (.new true [(eI 0), (.full []), (eB false), (eI 0)]),
      E (.st 4 (.t 14) (.t 44))])
    (.seq (.seq (.ops [S 45 (.mv (.t 12)),
      S 46 (.fld 0 (.t 14)),
      S 47 (.fld 1 (.t 46)),
      S 48 (.ld false 1 (.t 47)),
      S 49 (.ixa 1 (.t 48) (xI 0)),
      S 50 (.ld false 1 (.t 49)),
      S 51 (.ixa 1 (.t 50) (xI 0)),
      S 52 (.ld false 1 (.t 51)),
      S 53 (.bin .sub .none (.t 45) (.t 52)),
      S 54 (.ld false 1 (.t 4)),
      S 55 (.nz (.t 54)),
      S 56 (.fld 0 (.t 55)),
      S 57 (.fld 1 (.t 56)),
      S 58 (.ld false 1 (.t 57)),
      S 59 (.bin .geq .none (.t 53) (.t 58))])
    (.cond (.t 59)
     (.exit 1)
     (.skip)))
    (.seq (.ops [S 60 (.ld false 1 (.t 5)),
      S 61 (.nz (.t 60)),
      S 62 (.fld 0 (.t 61)),
      S 63 (.ld false 1 (.t 62)),
      S 64 (.mv (.t 9)),
      S 65 (.bin .sub .none (.t 63) (.t 64)),
      S 66 (.mks 6 true 48 [(eI 0), (eI 0), (eI 0), (eI 0), (eI 0), (eI 0)] (.t 65) (.t 65)),
      S 15 (.mv (.t 66))])
    (.seq (.ops [S 67 (.mv (.t 15)),
      S 68 (.mv (.t 12)),
      S 69 (.mv (.t 9)),
      S 70 (.bin .sub .none (.t 68) (.t 69)),
      S 71 (.ld true 6 (.t 6)),
      S 72 (.ixa 6 (.t 67) (.t 70)),
      E (.st 6 (.t 72) (.t 71))])
    (.seq (.seq (.ops [S 73 (.fld 0 (.t 14)),
      S 74 (.fld 1 (.t 73)),
      S 75 (.ld false 1 (.t 74)),
      S 76 (.call n_tuple_Flat [(.t 75)]),
      S 77 (.len 0 (.t 76)),
      S 78 (.mv (xI 0))])
    (.block 2 (.loop [4, 5, 6, 9, 10, 11, 12, 14, 15, 39, 40, 41, 76, 77, 78] (.seq (.ops [S 79 (.bin .lss .none (.t 78) (.t 77))])
      (.seq (.cond (.t 79)
       (.skip)
       (.exit 2))
      (.seq (.block 3 (.seq (.ops [S 80 (.ixa 1 (.t 76) (.t 78)),
         S 81 (.ld false 1 (.t 80)),
         S 17 (.mv (.t 81))])
       (.ops [S 82 (.mv (.t 15)),
         S 83 (.mv (.t 17)),
         S 84 (.mv (.t 9)),
         S 85 (.bin .sub .none (.t 83) (.t 84)),
         S 86 (.mv (.t 10)),
         S 87 (.mv (.t 17)),
         S 88 (.callv (.t 86) [(.t 87)]),
         S 89 (.ixa 6 (.t 82) (.t 85)),
         E (.st 6 (.t 89) (.t 88))])))
      (.ops [S 90 (.bin .add .none (.t 78) (xI 1)),
        S 78 (.mv (.t 90))])))))))
    (.seq (.ops [S 91 (.fld 0 (.t 14)),
      S 92 (.fld 0 (.t 91)),
      S 93 (.ld false 1 (.t 92)),
      S 94 (.fld 0 (.t 14)),
      S 95 (.fld 1 (.t 94)),
      S 96 (.ld false 1 (.t 95)),
      S 97 (.mv (.t 9)),
      S 99 (.fld 0 (.t 14)),
      S 100 (.fld 2 (.t 99)),
      S 101 (.ld false 1 (.t 100)),
      S 18 (.new true [(eI 0), (.full []), (eB false)]),
      ⟨(some 98), .call 49 [(.t 96), (.t 97)], none, [(101, .ld false 1 (.t 100), none), (93, .ld false 1 (.t 92), none)]⟩,
      S 102 (.build [(eI 0), (.full []), (eB false)] [(0, 1, (.t 93)), (1, 1, (.t 98)), (2, 1, (.t 101))]),
      E (.st 3 (.t 18) (.t 102))])
    (.seq (.ops [S 103 (.ld false 1 (.t 4)),
      S 104 (.nz (.t 103)),
      S 105 (.fld 0 (.t 104)),
      S 106 (.ld true 3 (.t 105)),
      S 107 (.mv (.t 15)),
      S 108 (.ld true 3 (.t 18)),
      S 111 (.mv (xI 0)),
      S 109 (.call 50 [(.t 106), (.t 107), (.t 108)]),
      S 110 (.len 0 (.t 109))])
    (.block 4 (.loop [4, 5, 6, 9, 10, 11, 12, 14, 39, 40, 41, 109, 110, 111] (.seq (.ops [S 112 (.bin .lss .none (.t 111) (.t 110))])
      (.seq (.cond (.t 112)
       (.skip)
       (.exit 4))
      (.seq (.block 5 (.seq (.ops [S 113 (.ixa 3 (.t 109) (.t 111)),
         S 114 (.ld true 3 (.t 113)),
         S 20 (.new true [(eI 0), (.full []), (eB false)]),
         E (.st 3 (.t 20) (.t 114))])
       (.seq (.ops [S 115 (.fld 1 (.t 20)),
         S 116 (.ld false 1 (.t 115)),
         S 117 (.mv (.t 9)),
         S 118 (.un .neg (.t 117)),
         S 119 (.call 49 [(.t 116), (.t 118)]),
         S 120 (.fld 1 (.t 20)),
         E (.st 1 (.t 120) (.t 119))])
       (.seq (.ops [S 121 (.fld 1 (.t 20)),
         S 122 (.ld false 1 (.t 121)),
         S 123 (.fld 0 (.t 20)),
         S 124 (.ld false 1 (.t 123)),
         S 125 (.ixa 1 (.t 122) (.t 124)),
         S 126 (.ld false 1 (.t 125)),
         S 21 (.mv (.t 126))])
       (.ops [S 127 (.mv (.t 11)),
         S 128 (.ld true 3 (.t 20)),
         S 129 (.fld 3 (.t 14)),
         S 130 (.ld false 1 (.t 129)),
         S 131 (.build [(eI 0), (.full []), (eB false), (eI 0)] [(0, 3, (.t 128)), (3, 1, (.t 130))]),
         S 132 (.fld 3 (.t 14)),
         S 133 (.ld false 1 (.t 132)),
         S 134 (.mv (.t 21)),
         S 135 (.mv (.t 21)),
         S 136 (.len 0 (.t 135)),
         S 137 (.bin .sub .none (.t 136) (xI 1)),
         S 138 (.ixa 1 (.t 134) (.t 137)),
         S 139 (.ld false 1 (.t 138)),
         S 140 (.mv (.t 12)),
         S 141 (.bin .eql .none (.t 139) (.t 140)),
         S 142 (.build [(eI 0), (.full []), (eB false), (eI 0), (eI 0), (eB false)] [(0, 4, (.t 131)), (4, 1, (.t 133)), (5, 1, (.t 141))]),
         S 143 (.lit 6 true [[(eI 0), (.full []), (eB false), (eI 0), (eI 0), (eB false)]] [(0, (.t 142))]),
         S 144 (.app 6 true 64 (.t 127) (.t 143)),
         S 11 (.mv (.t 144))])))))
      (.ops [S 145 (.bin .add .none (.t 111) (xI 1)),
        S 111 (.mv (.t 145))]))))))))))))))
   (.ops [S 146 (.bin .add .none (.t 41) (xI 1)),
     S 41 (.mv (.t 146))])))))))
 (.seq (.ops [S 148 (.ld false 1 (.t 4)),
   S 149 (.nz (.t 148)),
   S 150 (.fld 0 (.t 149)),
   S 151 (.ld true 3 (.t 150)),
   S 152 (.ld true 6 (.t 6)),
   S 153 (.lit 6 true [[(eI 0), (eI 0), (eI 0), (eI 0), (eI 0), (eI 0)]] [(0, (.t 152))]),
   S 22 (.new true [(eI 0), (.full []), (eB false)]),
   S 154 (.call n_step_Start [(.t 151), (.t 153)]),
   S 147 (.mv (.t 154)),
   S 155 (.ext (.t 147) 0),
   S 156 (.ext (.t 147) 1),
   E (.st 3 (.t 22) (.t 155)),
   S 23 (.mv (.t 156))])
 (.seq (.seq (.ops [S 157 (.mv (.t 23))])
 (.cond (.t 157)
  (.seq (.ops [S 158 (.mv (.t 12)),
    S 159 (.lit 1 false [[(eI 0)]] [(0, (.t 158))]),
    S 160 (.lit 1 false [[(.full [])]] [(0, (.t 159))]),
    S 161 (.fld 1 (.t 22)),
    E (.st 1 (.t 161) (.t 160))])
  (.ops [S 162 (.mv (.t 11)),
    S 163 (.ld true 3 (.t 22)),
    S 164 (.build [(eI 0), (.full []), (eB false), (eI 0)] [(0, 3, (.t 163)), (3, 1, (xI (-1)))]),
    S 165 (.build [(eI 0), (.full []), (eB false), (eI 0), (eI 0), (eB false)] [(0, 4, (.t 164)), (4, 1, (xI (-1))), (5, 1, (xB true))]),
    S 166 (.lit 6 true [[(eI 0), (.full []), (eB false), (eI 0), (eI 0), (eB false)]] [(0, (.t 165))]),
    S 167 (.app 6 true 64 (.t 162) (.t 166)),
    S 11 (.mv (.t 167))]))
  (.skip)))
 (.seq (.ops [S 168 (.mv (.t 11)),
   S 8 (.mv (.t 168))])
 (.ret))))))))),
 [.tmp 8], false, false, false⟩
/- (*sibyl/runs.Runs).Feed$1 -/
def d_runs_Runs_Feed_1 : DFn := ⟨2,
 .seq (.ops [S 2 (.box true 6 (.t 0)),
   S 3 (.mv (xB false))])
 (.seq (.ops [S 4 (.ld false 1 (.t 1)),
   S 5 (.nz (.t 4)),
   S 6 (.fld 0 (.t 5)),
   S 7 (.ld true 3 (.t 6)),
   S 8 (.fld 0 (.t 2)),
   S 9 (.fld 0 (.t 8)),
   S 10 (.ld true 3 (.t 9)),
   S 11 (.call n_step_Done [(.t 7), (.t 10)]),
   S 12 (.un .not (.t 11)),
   S 13 (.mv (.t 12)),
   ⟨(some 14), .ld false 1 (.t 1), (some (13, false)), []⟩,
   ⟨(some 15), .nz (.t 14), (some (13, false)), []⟩,
   ⟨(some 16), .fld 0 (.t 15), (some (13, false)), []⟩,
   ⟨(some 17), .fld 0 (.t 16), (some (13, false)), []⟩,
   ⟨(some 18), .ld false 1 (.t 17), (some (13, false)), []⟩,
   ⟨(some 19), .fld 0 (.t 2), (some (13, false)), []⟩,
   ⟨(some 20), .fld 0 (.t 19), (some (13, false)), []⟩,
   ⟨(some 21), .fld 0 (.t 20), (some (13, false)), []⟩,
   ⟨(some 22), .ld false 1 (.t 21), (some (13, false)), []⟩,
   ⟨(some 23), .ixa 4 (.t 18) (.t 22), (some (13, false)), []⟩,
   ⟨(some 24), .fld 1 (.t 23), (some (13, false)), []⟩,
   ⟨(some 25), .ld false 1 (.t 24), (some (13, false)), []⟩,
   S 26 (.pick (.t 13) (xB true) (.t 25)),
   S 3 (.mv (.t 26))])
 (.ret)),
 [.tmp 3], false, false, false⟩
/- sibyl/step.Done -/
def d_step_Done : DFn := ⟨2,
 .seq (.ops [S 2 (.box true 3 (.t 0)),
   S 3 (.box true 3 (.t 1)),
   S 4 (.mv (xB false))])
 (.seq (.ops [S 5 (.ld true 3 (.t 2)),
   S 6 (.call n_table_Right [(.t 5)]),
   S 7 (.mv (.t 6)),
   ⟨(some 8), .fld 0 (.t 3), (some (7, true)), []⟩,
   ⟨(some 9), .ld false 1 (.t 8), (some (7, true)), []⟩,
   ⟨(some 10), .fld 0 (.t 2), (some (7, true)), []⟩,
   ⟨(some 11), .ld false 1 (.t 10), (some (7, true)), []⟩,
   ⟨(some 12), .len 0 (.t 11), (some (7, true)), []⟩,
   ⟨(some 13), .bin .sub .none (.t 12) (xI 1), (some (7, true)), []⟩,
   ⟨(some 14), .bin .eql .none (.t 9) (.t 13), (some (7, true)), []⟩,
   S 15 (.pick (.t 7) (.t 14) (xB false)),
   S 4 (.mv (.t 15))])
 (.ret)),
 [.tmp 4], false, false, false⟩
/- sibyl/runs.mapped[sibyl/runs.run,int] -/
def d_runs_mapped : DFn := ⟨2,
 .seq (.ops [S 4 (.nils 1 false)])
 (.seq (.ops [S 8 (.mv (.t 0)),
   S 9 (.len 0 (.t 8)),
   S 10 (.mks 1 false 8 [(eI 0)] (.t 9) (.t 9)),
   S 5 (.mv (.t 10))])
 (.seq (.seq (.ops [S 11 (.mv (.t 0)),
   S 12 (.len 0 (.t 11)),
   S 13 (.mv (xI 0))])
 (.block 0 (.loop [1, 5, 11, 12, 13] (.seq (.ops [S 14 (.bin .lss .none (.t 13) (.t 12))])
   (.seq (.cond (.t 14)
    (.skip)
    (.exit 0))
   (.seq (.block 1 (.seq (.ops [S 15 (.mv (.t 13)),
      S 16 (.ixa 4 (.t 11) (.t 13)),
      S 17 (.ld true 4 (.t 16)),
      S 7 (.new true [(eI 0), (.full []), (eB false), (eI 0)]),
      S 6 (.mv (.t 15)),
      E (.st 4 (.t 7) (.t 17))])
    (.ops [S 18 (.mv (.t 5)),
      S 19 (.mv (.t 6)),
      S 20 (.mv (.t 1)),
      S 21 (.ld true 4 (.t 7)),
      S 22 (.callv (.t 20) [(.t 21)]),
      S 23 (.ixa 1 (.t 18) (.t 19)),
      E (.st 1 (.t 23) (.t 22))])))
   (.ops [S 24 (.bin .add .none (.t 13) (xI 1)),
     S 13 (.mv (.t 24))])))))))
 (.seq (.ops [S 25 (.mv (.t 5)),
   S 4 (.mv (.t 25))])
 (.ret)))),
 [.tmp 4], false, false, false⟩
/- (*sibyl/runs.Runs).found -/
def d_runs_Runs_found : DFn := ⟨3,
 .seq (.ops [S 4 (.box false 1 (.t 1)),
   S 6 (.new true [(.full []), (.full [])])])
 (.seq (.ops [S 8 (.mkf (.func n_runs_Runs_found_1) [] [(.t 4)]),
   S 7 (.new false [.nilf]),
   E (.st 1 (.t 7) (.t 8))])
 (.seq (.ops [S 9 (.mv (.t 2)),
   S 10 (.mkf (.func n_runs_Runs_found_2) [] [(.t 7)]),
   S 11 (.call n_runs_mapped_53 [(.t 9), (.t 10)]),
   S 12 (.mv (.t 2)),
   S 13 (.call n_tuple_Flat [(.t 12)]),
   S 14 (.mkf (.func n_runs_Runs_found_3) [] [(.t 7)]),
   S 15 (.call n_runs_mapped_57 [(.t 13), (.t 14)]),
   S 16 (.build [(.full []), (.full [])] [(0, 1, (.t 11)), (1, 1, (.t 15))]),
   E (.st 2 (.t 6) (.t 16))])
 (.ret))),
 [.cell 6 true 2], false, false, false⟩
/- slices.SortStableFunc[[]sibyl/api.Found,sibyl/api.Found] -/
def d_slices_SortStableFunc : DFn := ⟨2,
 .ops [S 4 (.mv (.t 0)),
   S 5 (.mv (.t 0)),
   S 6 (.len 0 (.t 5)),
   S 7 (.mv (.t 1)),
   S 8 (.call n_slices_stableCmpFunc [(.t 4), (.t 6), (.t 7)])],
 [], false, false, false⟩
/- sibyl/table.Right -/
def d_table_Right : DFn := ⟨1,
 .seq (.ops [S 1 (.box true 3 (.t 0)),
   S 2 (.mv (xB false))])
 (.seq (.ops [S 7 (.fld 0 (.t 1)),
   S 8 (.ld false 1 (.t 7)),
   S 9 (.len 0 (.t 8)),
   S 3 (.new false [(eI 0)]),
   E (.st 1 (.t 3) (.t 9))])
 (.seq (.seq (.ops [S 10 (.ld false 1 (.t 3)),
   S 11 (.bin .lss .none (.t 10) (xI 1)),
   S 12 (.mv (.t 11)),
   ⟨(some 13), .ld false 1 (.t 3), (some (12, false)), []⟩,
   ⟨(some 14), .bin .gtr .none (.t 13) (xI 6), (some (12, false)), []⟩,
   S 15 (.pick (.t 12) (xB true) (.t 14)),
   S 16 (.mv (.t 15)),
   ⟨(some 17), .fld 1 (.t 1), (some (16, false)), []⟩,
   ⟨(some 18), .ld false 1 (.t 17), (some (16, false)), []⟩,
   ⟨(some 19), .bin .lss .none (.t 18) (xI 1), (some (16, false)), []⟩,
   S 20 (.pick (.t 16) (xB true) (.t 19)),
   S 21 (.mv (.t 20)),
   ⟨(some 22), .fld 1 (.t 1), (some (21, false)), []⟩,
   ⟨(some 23), .ld false 1 (.t 22), (some (21, false)), []⟩,
   ⟨(some 24), .bin .gtr .none (.t 23) (xI 8), (some (21, false)), []⟩,
   S 25 (.pick (.t 21) (xB true) (.t 24)),
   S 26 (.mv (.t 25)),
   ⟨(some 27), .fld 0 (.t 1), (some (26, false)), []⟩,
   ⟨(some 28), .ld false 1 (.t 27), (some (26, false)), []⟩,
   ⟨(some 29), .ld false 1 (.t 3), (some (26, false)), []⟩,
   ⟨(some 30), .bin .sub .none (.t 29) (xI 1), (some (26, false)), []⟩,
   ⟨(some 31), .ixa 4 (.t 28) (.t 30), (some (26, false)), []⟩,
   ⟨(some 32), .fld 3 (.t 31), (some (26, false)), []⟩,
   ⟨(some 33), .ld false 1 (.t 32), (some (26, false)), []⟩,
   ⟨(some 34), .len 0 (.t 33), (some (26, false)), []⟩,
   ⟨(some 35), .bin .gtr .none (.t 34) (xI 0), (some (26, false)), []⟩,
   S 36 (.pick (.t 26) (xB true) (.t 35))])
 (.cond (.t 36)
  (.seq (.ops [S 2 (.mv (xB false))])
  (.ret))
  (.skip)))
 (.seq (.seq (.ops [S 37 (.fld 0 (.t 1)),
   S 38 (.ld false 1 (.t 37)),
   S 39 (.len 0 (.t 38)),
   S 40 (.mv (xI 0))])
 (.block 0 (.loop [3, 38, 39, 40] (.seq (.ops [S 41 (.bin .lss .none (.t 40) (.t 39))])
   (.seq (.cond (.t 41)
    (.skip)
    (.exit 0))
   (.seq (.block 1 (.seq (.ops [S 42 (.mv (.t 40)),
      S 43 (.ixa 4 (.t 38) (.t 40)),
      S 44 (.ld true 4 (.t 43)),
      S 4 (.new false [(eI 0)]),
      S 5 (.new true [(eI 0), (eB false), (.full []), (.full [])]),
      E (.st 1 (.t 4) (.t 42)),
      E (.st 4 (.t 5) (.t 44))])
    (.seq (.ops [S 45 (.mkf (.func 69) [] [(.t 4), (.t 3)]),
      S 6 (.mv (.t 45))])
    (.seq (.ops [S 46 (.fld 0 (.t 5)),
      S 47 (.ld false 1 (.t 46)),
      S 48 (.call n_table_typed [(.t 47)]),
      S 49 (.un .not (.t 48)),
      S 50 (.mv (.t 49)),
      ⟨(some 51), .fld 2 (.t 5), (some (50, false)), []⟩,
      ⟨(some 52), .ld false 1 (.t 51), (some (50, false)), []⟩,
      ⟨(some 53), .ld false 1 (.t 4), (some (50, false)), []⟩,
      ⟨(some 54), .ld false 1 (.t 4), (some (50, false)), []⟩,
      ⟨(some 55), .call n_table_may [(.t 52), (.t 53), (.t 54)], (some (50, false)), []⟩,
      ⟨(some 56), .un .not (.t 55), (some (50, false)), []⟩,
      S 57 (.pick (.t 50) (xB true) (.t 56)),
      S 58 (.mv (.t 57)),
      ⟨(some 59), .fld 3 (.t 5), (some (58, false)), []⟩,
      ⟨(some 60), .ld false 1 (.t 59), (some (58, false)), []⟩,
      ⟨(some 61), .mv (.t 6), (some (58, false)), []⟩,
      ⟨(some 62), .call n_slices_ContainsFunc [(.t 60), (.t 61)], (some (58, false)), []⟩,
      S 63 (.pick (.t 58) (xB true) (.t 62))])
    (.cond (.t 63)
     (.seq (.ops [S 2 (.mv (xB false))])
     (.ret))
     (.skip))))))
   (.ops [S 64 (.bin .add .none (.t 40) (xI 1)),
     S 40 (.mv (.t 64))])))))))
 (.seq (.ops [S 2 (.mv (xB true))])
 (.ret))))),
 [.tmp 2], false, false, false⟩
/- sibyl/chain.New -/
def d_chain_New : DFn := ⟨0,
 .seq (.ops [S 0 (.mv (.v .nilp))])
 (.seq (.ops [S 1 (.mkmap),
   S 2 (.build [.nilmap, (eI 0)] [(0, 1, (.t 1))]),
   S 3 (.box true 2 (.t 2)),
   S 0 (.mv (.t 3))])
 (.ret)),
 [.tmp 0], false, false, false⟩
/- (*sibyl/shard.Shard).register -/
def d_shard_Shard_register : DFn := ⟨4,
 .seq (.ops [S 6 (.box true 14 (.t 2)),
   S 8 (.new true [(.full []), (.full []), (.full []), (.full [])])])
 (.seq (.seq (.ops [S 9 (.fld 11 (.t 6)),
   S 10 (.ld true 3 (.t 9)),
   S 11 (.call n_table_Right [(.t 10)]),
   S 12 (.un .not (.t 11)),
   S 13 (.mv (.t 12)),
   ⟨(some 14), .mv (.t 0), (some (13, false)), []⟩,
   ⟨(some 15), .nz (.t 14), (some (13, false)), []⟩,
   ⟨(some 16), .fld 9 (.t 15), (some (13, false)), []⟩,
   ⟨(some 17), .ld false 1 (.t 16), (some (13, false)), []⟩,
   ⟨(some 18), .mv (.t 1), (some (13, false)), []⟩,
   ⟨(some 20), .mv (.t 0), (some (13, false)), []⟩,
   ⟨(some 21), .nz (.t 20), (some (13, false)), []⟩,
   ⟨(some 22), .fld 0 (.t 21), (some (13, false)), []⟩,
   ⟨(some 23), .fld 3 (.t 22), (some (13, false)), []⟩,
   ⟨(some 24), .ld false 1 (.t 23), (some (13, false)), []⟩,
   ⟨(some 19), .call n_roll_Roll_Len [(.t 17), (.t 18)], (some (13, false)), [(24, .ld false 1 (.t 23), (some (13, false)))]⟩,
   ⟨(some 25), .bin .geq .none (.t 19) (.t 24), (some (13, false)), []⟩,
   S 26 (.pick (.t 13) (xB true) (.t 25))])
 (.cond (.t 26)
  (.seq (.ops [S 27 (.build [(.full []), (.full []), (.full []), (.full [])] []),
    E (.st 4 (.t 8) (.t 27))])
  (.ret))
  (.skip)))
 (.seq (.ops [S 29 (.mv (.t 0)),
   S 30 (.mv (.t 0)),
   S 31 (.nz (.t 30)),
   S 32 (.fld 9 (.t 31)),
   S 33 (.ld false 1 (.t 32)),
   S 34 (.mv (.t 1)),
   S 35 (.fld 11 (.t 6)),
   S 36 (.ld true 3 (.t 35)),
   S 37 (.call n_roll_Roll_Add [(.t 33), (.t 34), (.t 36)]),
   S 28 (.mv (.t 37)),
   S 38 (.ext (.t 28) 0),
   S 39 (.ext (.t 28) 1),
   S 40 (.nz (.t 29)),
   S 41 (.fld 9 (.t 40)),
   E (.st 1 (.t 41) (.t 38))])
 (.seq (.ops [S 42 (.mv (.t 0)),
   S 43 (.nz (.t 42)),
   S 44 (.fld 10 (.t 43)),
   S 45 (.ld false 1 (.t 44)),
   S 46 (.mv (.t 1)),
   S 47 (.fld 11 (.t 6)),
   S 48 (.ld true 3 (.t 47)),
   S 49 (.mv (.t 0)),
   S 50 (.nz (.t 49)),
   S 51 (.fld 0 (.t 50)),
   S 52 (.fld 4 (.t 51)),
   S 53 (.ld false 1 (.t 52)),
   ⟨(some 54), .call n_runs_New [(.t 48), (.t 53)], none, [(45, .ld false 1 (.t 44), none)]⟩,
   E (.upd .int (.t 45) (.t 46) (.t 54))])
 (.seq (.ops [S 55 (.build [(.full []), (.full []), (.full []), (.full [])] []),
   E (.st 4 (.t 8) (.t 55))])
 (.ret))))),
 [.cell 8 true 4], false, false, false⟩
/- (*sibyl/shard.Shard).publish -/
def ra_shard_Shard_publish0 : DC :=
 .ops [S 10 (.new true [(eI 0), (eI 0), (.full []), (eI 0), (eB false)]),
   E (.st 5 (.t 10) (.t 20))]
def rb_shard_Shard_publish0 : DC :=
 .block 1 (.seq (.seq (.ops [S 21 (.fld 2 (.t 10)),
    S 22 (.fld 2 (.t 21)),
    S 23 (.ld false 1 (.t 22)),
    S 24 (.fld 0 (.t 10)),
    S 25 (.ld false 1 (.t 24)),
    S 26 (.fld 3 (.t 6)),
    S 27 (.fld 1 (.t 26)),
    S 28 (.ld false 1 (.t 27)),
    S 29 (.ld false 1 (.t 4)),
    S 30 (.nz (.t 29)),
    S 31 (.fld 0 (.t 30)),
    S 32 (.fld 0 (.t 31)),
    S 33 (.ld false 1 (.t 32)),
    S 35 (.ld false 1 (.t 4)),
    S 36 (.nz (.t 35)),
    S 37 (.fld 7 (.t 36)),
    S 38 (.ld false 1 (.t 37)),
    ⟨(some 34), .call n_route_Owner [(.t 23), (.t 25), (.t 28), (.t 33)], none, [(38, .ld false 1 (.t 37), none), (35, .ld false 1 (.t 4), none)]⟩,
    S 39 (.bin .neq .none (.t 34) (.t 38))])
  (.cond (.t 39)
   (.exit 1)
   (.skip)))
  (.seq (.ops [S 40 (.ld false 1 (.t 4)),
    S 41 (.nz (.t 40)),
    S 42 (.fld 10 (.t 41)),
    S 43 (.ld false 1 (.t 42)),
    S 44 (.fld 0 (.t 10)),
    S 45 (.ld false 1 (.t 44)),
    S 46 (.look .int .nilp false (.t 43) (.t 45)),
    S 47 (.ld false 1 (.t 5)),
    S 48 (.fld 9 (.t 6)),
    S 49 (.ld true 2 (.t 48)),
    S 50 (.fld 3 (.t 6)),
    S 51 (.ld true 6 (.t 50)),
    S 52 (.ld false 1 (.t 7)),
    S 11 (.new true [(.full []), (.full []), (.full []), (eB false)]),
    S 53 (.call n_runs_Runs_Feed [(.t 46), (.t 47), (.t 49), (.t 51), (.t 52)]),
    E (.st 4 (.t 11) (.t 53))])
  (.seq (.seq (.ops [S 54 (.fld 0 (.t 11)),
    S 55 (.ld false 1 (.t 54)),
    S 56 (.len 0 (.t 55)),
    S 57 (.mv (xI 0))])
  (.block 2 (.loop [9, 10, 11, 55, 56, 57] (.seq (.ops [S 58 (.bin .lss .none (.t 57) (.t 56))])
    (.seq (.cond (.t 58)
     (.skip)
     (.exit 2))
    (.seq (.block 3 (.seq (.ops [S 59 (.ixa 2 (.t 55) (.t 57)),
       S 60 (.ld true 2 (.t 59)),
       S 13 (.new true [(.full []), (.full [])]),
       E (.st 2 (.t 13) (.t 60))])
     (.ops [S 61 (.fld 0 (.t 9)),
       S 62 (.ld false 1 (.t 61)),
       S 63 (.fld 0 (.t 10)),
       S 64 (.ld false 1 (.t 63)),
       S 65 (.ld true 2 (.t 13)),
       S 66 (.build [(eI 0), (.full []), (.full [])] [(0, 1, (.t 64)), (1, 2, (.t 65))]),
       S 67 (.lit 3 true [[(eI 0), (.full []), (.full [])]] [(0, (.t 66))]),
       S 68 (.app 3 true 56 (.t 62) (.t 67)),
       S 69 (.fld 0 (.t 9)),
       E (.st 1 (.t 69) (.t 68))])))
    (.ops [S 70 (.bin .add .none (.t 57) (xI 1)),
      S 57 (.mv (.t 70))])))))))
  (.seq (.seq (.ops [S 71 (.fld 3 (.t 11)),
    S 72 (.ld false 1 (.t 71))])
  (.cond (.t 72)
   (.ops [S 73 (.fld 1 (.t 9)),
     S 74 (.ld false 1 (.t 73)),
     S 75 (.fld 0 (.t 10)),
     S 76 (.ld false 1 (.t 75)),
     S 77 (.lit 1 false [[(eI 0)]] [(0, (.t 76))]),
     S 78 (.app 1 false 8 (.t 74) (.t 77)),
     S 79 (.fld 1 (.t 9)),
     E (.st 1 (.t 79) (.t 78))])
   (.skip)))
  (.seq (.ops [S 80 (.fld 2 (.t 9)),
    S 81 (.ld false 1 (.t 80)),
    S 82 (.fld 1 (.t 11)),
    S 83 (.ld false 1 (.t 82)),
    S 84 (.app 2 true 16 (.t 81) (.t 83)),
    S 85 (.fld 2 (.t 9)),
    E (.st 1 (.t 85) (.t 84))])
  (.ops [S 86 (.fld 3 (.t 9)),
    S 87 (.ld false 1 (.t 86)),
    S 88 (.fld 2 (.t 11)),
    S 89 (.ld false 1 (.t 88)),
    S 90 (.app 2 true 16 (.t 87) (.t 89)),
    S 91 (.fld 3 (.t 9)),
    E (.st 1 (.t 91) (.t 90))]))))))
def d_shard_Shard_publish : DFn := ⟨4,
 .seq (.ops [S 4 (.box false 1 (.t 0)),
   S 5 (.box false 1 (.t 1)),
   S 6 (.box true 14 (.t 2)),
   S 7 (.box false 1 (.t 3)),
   S 8 (.new true [(.full []), (.full []), (.full []), (.full [])])])
 (.seq (.ops [S 9 (.new true [(.full []), (.full []), (.full []), (.full [])])])
 (.seq (.seq (.ops [S 14 (.ld false 1 (.t 4)),
   S 15 (.nz (.t 14)),
   S 16 (.fld 9 (.t 15)),
   S 17 (.ld false 1 (.t 16)),
   S 18 (.ld false 1 (.t 5)),
   S 19 (.call n_roll_Roll_Live [(.t 17), (.t 18)])])
 (.block 0 (.range [20] [4, 5, 6, 7, 9] (.t 19) ra_shard_Shard_publish0 rb_shard_Shard_publish0)))
 (.seq (.ops [S 92 (.ld true 4 (.t 9)),
   E (.st 4 (.t 8) (.t 92))])
 (.ret)))),
 [.cell 8 true 4], false, false, false⟩
/- sibyl/sibyllaw17.world -/
def d_sibyllaw17_world : DFn := ⟨1,
 .seq (.ops [S 1 (.box true 5 (.t 0)),
   S 2 (.mv (.v .nilp))])
 (.seq (.ops [S 5 (.ld true 5 (.t 1)),
   S 6 (.call n_sibyllaw17_Spec_config [(.t 5)]),
   S 7 (.build [(eI 0), (eI 0), (eI 0), (eI 0), (eI 0), (eI 0), (eI 0), (.full []), (.full [])] [(0, 7, (.t 6))]),
   S 8 (.box true 9 (.t 7)),
   S 3 (.mv (.t 8))])
 (.seq (.seq (.ops [S 4 (.mv (xI 0))])
 (.block 0 (.loop [3, 4] (.seq (.seq (.ops [S 9 (.mv (.t 4)),
     S 10 (.mv (.t 3)),
     S 11 (.nz (.t 10)),
     S 12 (.fld 0 (.t 11)),
     S 13 (.fld 0 (.t 12)),
     S 14 (.ld false 1 (.t 13)),
     S 15 (.bin .lss .none (.t 9) (.t 14))])
   (.cond (.t 15)
    (.skip)
    (.exit 0)))
   (.seq (.block 1 (.ops [S 18 (.mv (.t 3)),
      S 19 (.mv (.t 3)),
      S 20 (.nz (.t 19)),
      S 21 (.fld 7 (.t 20)),
      S 22 (.ld false 1 (.t 21)),
      S 23 (.mv (.t 3)),
      S 24 (.nz (.t 23)),
      S 25 (.fld 0 (.t 24)),
      S 26 (.ld true 7 (.t 25)),
      S 27 (.mv (.t 4)),
      ⟨(some 28), .call n_shard_New [(.t 26), (.t 27)], none, [(22, .ld false 1 (.t 21), none)]⟩,
      S 29 (.lit 1 false [[.nilp]] [(0, (.t 28))]),
      S 30 (.app 1 false 8 (.t 22) (.t 29)),
      S 31 (.nz (.t 18)),
      S 32 (.fld 7 (.t 31)),
      E (.st 1 (.t 32) (.t 30))]))
   (.ops [S 16 (.mv (.t 4)),
     S 17 (.bin .add .none (.t 16) (xI 1)),
     S 4 (.mv (.t 17))]))))))
 (.seq (.ops [S 33 (.mv (.t 3)),
   S 2 (.mv (.t 33))])
 (.ret)))),
 [.tmp 2], false, false, false⟩
/- (*sibyl/sibyllaw17.World).apply -/
def d_sibyllaw17_World_apply : DFn := ⟨3,
 .seq (.ops [S 5 (.box true 14 (.t 2)),
   S 6 (.nils 4 true)])
 (.seq (.ops [S 9 (.mv (.t 0)),
   S 10 (.mv (.t 0)),
   S 11 (.nz (.t 10)),
   S 12 (.fld 8 (.t 11)),
   S 13 (.ld false 1 (.t 12)),
   S 14 (.fld 3 (.t 5)),
   S 15 (.ld true 6 (.t 14)),
   S 16 (.lit 6 true [[(eI 0), (eI 0), (eI 0), (eI 0), (eI 0), (eI 0)]] [(0, (.t 15))]),
   S 17 (.app 6 true 48 (.t 13) (.t 16)),
   S 18 (.nz (.t 9)),
   S 19 (.fld 8 (.t 18)),
   E (.st 1 (.t 19) (.t 17))])
 (.seq (.ops [S 7 (.nils 4 true)])
 (.seq (.seq (.ops [S 8 (.mv (xI 0))])
 (.block 0 (.loop [0, 1, 5, 7, 8] (.seq (.seq (.ops [S 20 (.mv (.t 8)),
     S 21 (.mv (.t 0)),
     S 22 (.nz (.t 21)),
     S 23 (.fld 7 (.t 22)),
     S 24 (.ld false 1 (.t 23)),
     S 25 (.len 0 (.t 24)),
     S 26 (.bin .lss .none (.t 20) (.t 25))])
   (.cond (.t 26)
    (.skip)
    (.exit 0)))
   (.seq (.block 1 (.ops [S 29 (.mv (.t 7)),
      S 30 (.mv (.t 0)),
      S 31 (.nz (.t 30)),
      S 32 (.fld 7 (.t 31)),
      S 33 (.ld false 1 (.t 32)),
      S 34 (.mv (.t 8)),
      S 35 (.ixa 1 (.t 33) (.t 34)),
      S 36 (.ld false 1 (.t 35)),
      S 37 (.mv (.t 1)),
      S 38 (.ld true 14 (.t 5)),
      S 39 (.mv (.t 0)),
      S 40 (.mkf (.func 14) [(.t 39)] []),
      S 41 (.call n_shard_Shard_Apply [(.t 36), (.t 37), (.t 38), (.t 40)]),
      S 42 (.lit 4 true [[(.full []), (.full []), (.full []), (.full [])]] [(0, (.t 41))]),
      S 43 (.app 4 true 96 (.t 29) (.t 42)),
      S 7 (.mv (.t 43))]))
   (.ops [S 27 (.mv (.t 8)),
     S 28 (.bin .add .none (.t 27) (xI 1)),
     S 8 (.mv (.t 28))]))))))
 (.seq (.ops [S 44 (.mv (.t 7)),
   S 6 (.mv (.t 44))])
 (.ret))))),
 [.tmp 6], false, false, false⟩
/- sibyl/sibylref06.Compare -/
def d_sibylref06_Compare : DFn := ⟨2,
 .seq (.ops [S 4 (.mv (xI 0))])
 (.seq (.seq (.ops [S 5 (.mv (xI 0))])
 (.block 0 (.loop [0, 1, 5] (.seq (.seq (.ops [S 7 (.mv (.t 5)),
     S 8 (.mv (.t 0)),
     S 9 (.len 0 (.t 8)),
     S 10 (.bin .lss .none (.t 7) (.t 9)),
     S 11 (.mv (.t 10)),
     ⟨(some 12), .mv (.t 5), (some (11, true)), []⟩,
     ⟨(some 13), .mv (.t 1), (some (11, true)), []⟩,
     ⟨(some 14), .len 0 (.t 13), (some (11, true)), []⟩,
     ⟨(some 15), .bin .lss .none (.t 12) (.t 14), (some (11, true)), []⟩,
     S 16 (.pick (.t 11) (.t 15) (xB false))])
   (.cond (.t 16)
    (.skip)
    (.exit 0)))
   (.seq (.block 1 (.seq (.ops [S 19 (.mv (.t 0)),
      S 20 (.mv (.t 5)),
      S 21 (.ixa 1 (.t 19) (.t 20)),
      S 22 (.ld false 1 (.t 21)),
      S 23 (.mv (.t 1)),
      S 24 (.mv (.t 5)),
      S 25 (.ixa 1 (.t 23) (.t 24)),
      S 26 (.ld false 1 (.t 25)),
      S 27 (.call n_sibylref06_row [(.t 22), (.t 26)]),
      S 6 (.mv (.t 27))])
    (.seq (.ops [S 28 (.mv (.t 6)),
      S 29 (.bin .neq .none (.t 28) (xI 0))])
    (.cond (.t 29)
     (.seq (.ops [S 30 (.mv (.t 6)),
       S 4 (.mv (.t 30))])
     (.ret))
     (.skip)))))
   (.ops [S 17 (.mv (.t 5)),
     S 18 (.bin .add .none (.t 17) (xI 1)),
     S 5 (.mv (.t 18))]))))))
 (.seq (.seq (.ops [S 31 (.mv (.t 0)),
   S 32 (.len 0 (.t 31)),
   S 33 (.mv (.t 1)),
   S 34 (.len 0 (.t 33)),
   S 35 (.bin .lss .none (.t 32) (.t 34))])
 (.cond (.t 35)
  (.seq (.ops [S 4 (.mv (xI (-1)))])
  (.ret))
  (.skip)))
 (.seq (.seq (.ops [S 36 (.mv (.t 0)),
   S 37 (.len 0 (.t 36)),
   S 38 (.mv (.t 1)),
   S 39 (.len 0 (.t 38)),
   S 40 (.bin .gtr .none (.t 37) (.t 39))])
 (.cond (.t 40)
  (.seq (.ops [S 4 (.mv (xI 1))])
  (.ret))
  (.skip)))
 (.seq (.ops [S 4 (.mv (xI 0))])
 (.ret))))),
 [.tmp 4], false, false, false⟩
/- sibyl/shard.within -/
def d_shard_within : DFn := ⟨2,
 .seq (.ops [S 4 (.mv (xB false))])
 (.seq (.ops [S 5 (.mv (.t 0)),
   S 6 (.bin .geq .none (.t 5) (xI 1)),
   S 7 (.mv (.t 6)),
   ⟨(some 8), .mv (.t 0), (some (7, true)), []⟩,
   ⟨(some 9), .mv (.t 1), (some (7, true)), []⟩,
   ⟨(some 10), .bin .leq .none (.t 8) (.t 9), (some (7, true)), []⟩,
   S 11 (.pick (.t 7) (.t 10) (xB false)),
   S 4 (.mv (.t 11))])
 (.ret)),
 [.tmp 4], false, true, false⟩
/- sibyl/tuple.Flat -/
def d_tuple_Flat : DFn := ⟨1,
 .seq (.ops [S 2 (.nils 1 false)])
 (.seq (.ops [S 3 (.mv (.t 0)),
   S 4 (.call n_slices_Concat [(.t 3)]),
   S 2 (.mv (.t 4))])
 (.ret)),
 [.tmp 2], false, false, false⟩
/- sibyl/step.Start -/
def d_step_Start : DFn := ⟨2,
 .seq (.ops [S 2 (.box true 3 (.t 0)),
   S 4 (.new true [(eI 0), (.full []), (eB false)]),
   S 5 (.mv (xB false))])
 (.seq (.seq (.ops [S 6 (.ld true 3 (.t 2)),
   S 7 (.call n_table_Right [(.t 6)]),
   S 8 (.un .not (.t 7)),
   S 9 (.mv (.t 8)),
   ⟨(some 10), .mv (.t 1), (some (9, false)), []⟩,
   ⟨(some 11), .len 0 (.t 10), (some (9, false)), []⟩,
   ⟨(some 12), .bin .eql .none (.t 11) (xI 0), (some (9, false)), []⟩,
   S 13 (.pick (.t 9) (xB true) (.t 12)),
   S 14 (.mv (.t 13)),
   ⟨(some 15), .ld true 3 (.t 2), (some (14, false)), []⟩,
   ⟨(some 16), .mv (.t 1), (some (14, false)), []⟩,
   ⟨(some 17), .build [(eI 0), (.full []), (eB false)] [], (some (14, false)), []⟩,
   ⟨(some 18), .call n_step_takes [(.t 15), (.t 16), (.t 17), (xI 0)], (some (14, false)), []⟩,
   ⟨(some 19), .un .not (.t 18), (some (14, false)), []⟩,
   S 20 (.pick (.t 14) (xB true) (.t 19))])
 (.cond (.t 20)
  (.seq (.ops [S 21 (.build [(eI 0), (.full []), (eB false)] []),
    E (.st 3 (.t 4) (.t 21)),
    S 5 (.mv (xB false))])
  (.ret))
  (.skip)))
 (.seq (.ops [S 22 (.mv (.t 1)),
   S 23 (.len 0 (.t 22)),
   S 24 (.bin .sub .none (.t 23) (xI 1)),
   S 25 (.lit 1 false [[(eI 0)]] [(0, (.t 24))]),
   S 26 (.lit 1 false [[(.full [])]] [(0, (.t 25))]),
   S 27 (.build [(eI 0), (.full []), (eB false)] [(1, 1, (.t 26))]),
   E (.st 3 (.t 4) (.t 27)),
   S 5 (.mv (xB true))])
 (.ret))),
 [.cell 4 true 3, .tmp 5], false, false, false⟩
/- (*sibyl/runs.Runs).found$1 -/
def d_runs_Runs_found_1 : DFn := ⟨2,
 .seq (.ops [S 3 (.new true [(eI 0), (eI 0), (eI 0)])])
 (.seq (.ops [S 4 (.ld false 1 (.t 1)),
   S 5 (.nz (.t 4)),
   S 6 (.fld 1 (.t 5)),
   S 7 (.ld false 1 (.t 6)),
   S 8 (.mv (.t 0)),
   S 9 (.ld false 1 (.t 1)),
   S 10 (.nz (.t 9)),
   S 11 (.fld 0 (.t 10)),
   S 12 (.ld false 1 (.t 11)),
   S 13 (.ld false 1 (.t 1)),
   S 14 (.nz (.t 13)),
   S 15 (.fld 1 (.t 14)),
   S 16 (.ld false 1 (.t 15)),
   S 17 (.len 0 (.t 16)),
   S 18 (.bin .sub .none (.t 12) (.t 17)),
   S 19 (.bin .sub .none (.t 8) (.t 18)),
   S 20 (.ixa 3 (.t 7) (.t 19)),
   S 21 (.ld true 3 (.t 20)),
   E (.st 3 (.t 3) (.t 21))])
 (.ret)),
 [.cell 3 true 3], false, false, false⟩
/- sibyl/runs.mapped[[]int,[]int] -/
def d_runs_mapped_53 : DFn := ⟨2,
 .seq (.ops [S 4 (.nils 1 false)])
 (.seq (.ops [S 8 (.mv (.t 0)),
   S 9 (.len 0 (.t 8)),
   S 10 (.mks 1 false 24 [(.full [])] (.t 9) (.t 9)),
   S 5 (.mv (.t 10))])
 (.seq (.seq (.ops [S 11 (.mv (.t 0)),
   S 12 (.len 0 (.t 11)),
   S 13 (.mv (xI 0))])
 (.block 0 (.loop [1, 5, 11, 12, 13] (.seq (.ops [S 14 (.bin .lss .none (.t 13) (.t 12))])
   (.seq (.cond (.t 14)
    (.skip)
    (.exit 0))
   (.seq (.block 1 (.seq (.ops [S 15 (.mv (.t 13)),
      S 16 (.ixa 1 (.t 11) (.t 13)),
      S 17 (.ld false 1 (.t 16)),
      S 6 (.mv (.t 15)),
      S 7 (.mv (.t 17))])
    (.ops [S 18 (.mv (.t 5)),
      S 19 (.mv (.t 6)),
      S 20 (.mv (.t 1)),
      S 21 (.mv (.t 7)),
      S 22 (.callv (.t 20) [(.t 21)]),
      S 23 (.ixa 1 (.t 18) (.t 19)),
      E (.st 1 (.t 23) (.t 22))])))
   (.ops [S 24 (.bin .add .none (.t 13) (xI 1)),
     S 13 (.mv (.t 24))])))))))
 (.seq (.ops [S 25 (.mv (.t 5)),
   S 4 (.mv (.t 25))])
 (.ret)))),
 [.tmp 4], false, false, false⟩
/- (*sibyl/runs.Runs).found$2 -/
def d_runs_Runs_found_2 : DFn := ⟨2,
 .seq (.ops [S 3 (.nils 1 false)])
 (.seq (.ops [S 4 (.mv (.t 0)),
   S 5 (.mkf (.func n_runs_Runs_found_2_1) [] [(.t 1)]),
   S 6 (.call n_runs_mapped_55 [(.t 4), (.t 5)]),
   S 3 (.mv (.t 6))])
 (.ret)),
 [.tmp 3], false, false, false⟩
/- sibyl/runs.mapped[int,int] -/
def d_runs_mapped_55 : DFn := ⟨2,
 .seq (.ops [S 4 (.nils 1 false)])
 (.seq (.ops [S 8 (.mv (.t 0)),
   S 9 (.len 0 (.t 8)),
   S 10 (.mks 1 false 8 [(eI 0)] (.t 9) (.t 9)),
   S 5 (.mv (.t 10))])
 (.seq (.seq (.ops [S 11 (.mv (.t 0)),
   S 12 (.len 0 (.t 11)),
   S 13 (.mv (xI 0))])
 (.block 0 (.loop [1, 5, 11, 12, 13] (.seq (.ops [S 14 (.bin .lss .none (.t 13) (.t 12))])
   (.seq (.cond (.t 14)
    (.skip)
    (.exit 0))
   (.seq (.block 1 (.seq (.ops [S 15 (.mv (.t 13)),
      S 16 (.ixa 1 (.t 11) (.t 13)),
      S 17 (.ld false 1 (.t 16)),
      S 6 (.mv (.t 15)),
      S 7 (.mv (.t 17))])
    (.ops [S 18 (.mv (.t 5)),
      S 19 (.mv (.t 6)),
      S 20 (.mv (.t 1)),
      S 21 (.mv (.t 7)),
      S 22 (.callv (.t 20) [(.t 21)]),
      S 23 (.ixa 1 (.t 18) (.t 19)),
      E (.st 1 (.t 23) (.t 22))])))
   (.ops [S 24 (.bin .add .none (.t 13) (xI 1)),
     S 13 (.mv (.t 24))])))))))
 (.seq (.ops [S 25 (.mv (.t 5)),
   S 4 (.mv (.t 25))])
 (.ret)))),
 [.tmp 4], false, false, false⟩
/- (*sibyl/runs.Runs).found$2$1 -/
def d_runs_Runs_found_2_1 : DFn := ⟨2,
 .seq (.ops [S 3 (.mv (xI 0))])
 (.seq (.ops [S 4 (.ld false 1 (.t 1)),
   S 5 (.mv (.t 0)),
   S 6 (.callv (.t 4) [(.t 5)]),
   S 7 (.fget 0 1 false (.t 6)),
   S 3 (.mv (.t 7))])
 (.ret)),
 [.tmp 3], false, false, false⟩
/- sibyl/runs.mapped[int,sibyl/api.Ref] -/
def d_runs_mapped_57 : DFn := ⟨2,
 .seq (.ops [S 4 (.nils 2 true)])
 (.seq (.ops [S 8 (.mv (.t 0)),
   S 9 (.len 0 (.t 8)),
   S 10 (.mks 2 true 16 [(eI 0), (eI 0)] (.t 9) (.t 9)),
   S 5 (.mv (.t 10))])
 (.seq (.seq (.ops [S 11 (.mv (.t 0)),
   S 12 (.len 0 (.t 11)),
   S 13 (.mv (xI 0))])
 (.block 0 (.loop [1, 5, 11, 12, 13] (.seq (.ops [S 14 (.bin .lss .none (.t 13) (.t 12))])
   (.seq (.cond (.t 14)
    (.skip)
    (.exit 0))
   (.seq (.block 1 (.seq (.ops [S 15 (.mv (.t 13)),
      S 16 (.ixa 1 (.t 11) (.t 13)),
      S 17 (.ld false 1 (.t 16)),
      S 6 (.mv (.t 15)),
      S 7 (.mv (.t 17))])
    (.ops [S 18 (.mv (.t 5)),
      S 19 (.mv (.t 6)),
      S 20 (.mv (.t 1)),
      S 21 (.mv (.t 7)),
      S 22 (.callv (.t 20) [(.t 21)]),
      S 23 (.ixa 2 (.t 18) (.t 19)),
      E (.st 2 (.t 23) (.t 22))])))
   (.ops [S 24 (.bin .add .none (.t 13) (xI 1)),
     S 13 (.mv (.t 24))])))))))
 (.seq (.ops [S 25 (.mv (.t 5)),
   S 4 (.mv (.t 25))])
 (.ret)))),
 [.tmp 4], false, false, false⟩
/- (*sibyl/runs.Runs).found$3 -/
def d_runs_Runs_found_3 : DFn := ⟨2,
 .seq (.ops [S 3 (.new true [(eI 0), (eI 0)])])
 (.seq (.ops [S 4 (.ld false 1 (.t 1)),
   S 5 (.mv (.t 0)),
   S 6 (.callv (.t 4) [(.t 5)]),
   S 7 (.fget 1 2 true (.t 6)),
   E (.st 2 (.t 3) (.t 7))])
 (.ret)),
 [.cell 3 true 2], false, false, false⟩
/- slices.stableCmpFunc[sibyl/api.Found] -/
def d_slices_stableCmpFunc : DFn := ⟨3,
 .seq (.ops [S 6 (.mv (xI 20))])
 (.seq (.ops [S 10 (.mv (.t 6)),
   S 7 (.mv (xI 0)),
   S 8 (.mv (.t 10))])
 (.seq (.block 0 (.loop [0, 1, 2, 6, 7, 8] (.seq (.seq (.ops [S 11 (.mv (.t 8)),
     S 12 (.mv (.t 1)),
     S 13 (.bin .leq .none (.t 11) (.t 12))])
   (.cond (.t 13)
    (.skip)
    (.exit 0)))
   (.block 1 (.seq (.ops [S 14 (.mv (.t 0)),
      S 15 (.mv (.t 7)),
      S 16 (.mv (.t 8)),
      S 17 (.mv (.t 2)),
      S 18 (.call n_slices_insertionSortCmpFunc [(.t 14), (.t 15), (.t 16), (.t 17)])])
    (.seq (.ops [S 19 (.mv (.t 8)),
      S 7 (.mv (.t 19))])
    (.ops [S 20 (.mv (.t 8)),
      S 21 (.mv (.t 6)),
      S 22 (.bin .add .none (.t 20) (.t 21)),
      S 8 (.mv (.t 22))])))))))
 (.seq (.ops [S 23 (.mv (.t 0)),
   S 24 (.mv (.t 7)),
   S 25 (.mv (.t 1)),
   S 26 (.mv (.t 2)),
   S 27 (.call n_slices_insertionSortCmpFunc [(.t 23), (.t 24), (.t 25), (.t 26)])])
 (.block 2 (.loop [0, 1, 2, 6] (.seq (.seq (.ops [S 28 (.mv (.t 6)),
     S 29 (.mv (.t 1)),
     S 30 (.bin .lss .none (.t 28) (.t 29))])
   (.cond (.t 30)
    (.skip)
    (.exit 2)))
   (.block 3 (.seq (.ops [S 31 (.mv (.t 6)),
      S 32 (.bin .mul .none (xI 2) (.t 31)),
      S 7 (.mv (xI 0)),
      S 8 (.mv (.t 32))])
    (.seq (.block 4 (.loop [0, 1, 2, 6, 7, 8] (.seq (.seq (.ops [S 33 (.mv (.t 8)),
        S 34 (.mv (.t 1)),
        S 35 (.bin .leq .none (.t 33) (.t 34))])
      (.cond (.t 35)
       (.skip)
       (.exit 4)))
      (.block 5 (.seq (.ops [S 36 (.mv (.t 0)),
         S 37 (.mv (.t 7)),
         S 38 (.mv (.t 7)),
         S 39 (.mv (.t 6)),
         S 40 (.bin .add .none (.t 38) (.t 39)),
         S 41 (.mv (.t 8)),
         S 42 (.mv (.t 2)),
         S 43 (.call 90 [(.t 36), (.t 37), (.t 40), (.t 41), (.t 42)])])
       (.seq (.ops [S 44 (.mv (.t 8)),
         S 7 (.mv (.t 44))])
       (.ops [S 45 (.mv (.t 8)),
         S 46 (.mv (.t 6)),
         S 47 (.bin .mul .none (xI 2) (.t 46)),
         S 48 (.bin .add .none (.t 45) (.t 47)),
         S 8 (.mv (.t 48))])))))))
    (.seq (.seq (.ops [S 49 (.mv (.t 7)),
      S 50 (.mv (.t 6)),
      S 51 (.bin .add .none (.t 49) (.t 50)),
      S 9 (.mv (.t 51))])
    (.seq (.ops [S 52 (.mv (.t 9)),
      S 53 (.mv (.t 1)),
      S 54 (.bin .lss .none (.t 52) (.t 53))])
    (.cond (.t 54)
     (.ops [S 55 (.mv (.t 0)),
       S 56 (.mv (.t 7)),
       S 57 (.mv (.t 9)),
       S 58 (.mv (.t 1)),
       S 59 (.mv (.t 2)),
       S 60 (.call 90 [(.t 55), (.t 56), (.t 57), (.t 58), (.t 59)])])
     (.skip))))
    (.ops [S 61 (.mv (.t 6)),
      S 62 (.bin .mul .none (.t 61) (xI 2)),
      S 6 (.mv (.t 62))]))))))))))),
 [], false, false, false⟩
/- sibyl/table.typed -/
def d_table_typed : DFn := ⟨1,
 .seq (.ops [S 2 (.mv (xB false))])
 (.seq (.ops [S 3 (.mv (.t 0)),
   S 4 (.bin .geq .none (.t 3) (xI 0)),
   S 5 (.mv (.t 4)),
   ⟨(some 6), .mv (.t 0), (some (5, true)), []⟩,
   ⟨(some 7), .bin .lss .none (.t 6) (xI 8), (some (5, true)), []⟩,
   S 8 (.pick (.t 5) (.t 7) (xB false)),
   S 2 (.mv (.t 8))])
 (.ret)),
 [.tmp 2], false, false, false⟩
/- sibyl/table.may -/
def d_table_may : DFn := ⟨3,
 .seq (.ops [S 4 (.box false 1 (.t 1)),
   S 5 (.box false 1 (.t 2)),
   S 6 (.mv (xB false))])
 (.seq (.seq (.ops [S 10 (.mv (.t 0)),
   S 11 (.len 0 (.t 10)),
   S 12 (.mv (xI 0))])
 (.block 0 (.loop [4, 5, 10, 11, 12] (.seq (.ops [S 13 (.bin .lss .none (.t 12) (.t 11))])
   (.seq (.cond (.t 13)
    (.skip)
    (.exit 0))
   (.seq (.block 1 (.seq (.ops [S 14 (.ixa 3 (.t 10) (.t 12)),
      S 15 (.ld true 3 (.t 14)),
      S 8 (.new true [(eI 0), (.full []), (.full [])]),
      E (.st 3 (.t 8) (.t 15))])
    (.seq (.ops [S 16 (.mkf (.func 101) [] [(.t 4), (.t 5)]),
      S 9 (.mv (.t 16))])
    (.seq (.ops [S 17 (.fld 0 (.t 8)),
      S 18 (.ld false 1 (.t 17)),
      S 19 (.bin .lss .none (.t 18) (xI 1)),
      S 20 (.mv (.t 19)),
      ⟨(some 21), .fld 0 (.t 8), (some (20, false)), []⟩,
      ⟨(some 22), .ld false 1 (.t 21), (some (20, false)), []⟩,
      ⟨(some 23), .bin .gtr .none (.t 22) (xI 6), (some (20, false)), []⟩,
      S 24 (.pick (.t 20) (xB true) (.t 23)),
      S 25 (.mv (.t 24)),
      ⟨(some 26), .fld 1 (.t 8), (some (25, false)), []⟩,
      ⟨(some 27), .ld false 1 (.t 26), (some (25, false)), []⟩,
      ⟨(some 28), .fld 2 (.t 8), (some (25, false)), []⟩,
      ⟨(some 29), .ld false 1 (.t 28), (some (25, false)), []⟩,
      ⟨(some 30), .lit 1 false [[(.full [])], [(.full [])]] [(0, (.t 27)), (1, (.t 29))], (some (25, false)), []⟩,
      ⟨(some 31), .call 104 [(.t 30)], (some (25, false)), []⟩,
      ⟨(some 32), .mv (.t 9), (some (25, false)), []⟩,
      ⟨(some 33), .call 103 [(.t 31), (.t 32)], (some (25, false)), []⟩,
      S 34 (.pick (.t 25) (xB true) (.t 33))])
    (.cond (.t 34)
     (.seq (.ops [S 6 (.mv (xB false))])
     (.ret))
     (.skip))))))
   (.ops [S 35 (.bin .add .none (.t 12) (xI 1)),
     S 12 (.mv (.t 35))])))))))
 (.seq (.ops [S 6 (.mv (xB true))])
 (.ret))),
 [.tmp 6], false, false, false⟩
/- slices.ContainsFunc[[]sibyl/api.Guard,sibyl/api.Guard] -/
def d_slices_ContainsFunc : DFn := ⟨2,
 .seq (.ops [S 4 (.mv (xB false))])
 (.seq (.ops [S 5 (.mv (.t 0)),
   S 6 (.mv (.t 1)),
   S 7 (.call n_slices_IndexFunc [(.t 5), (.t 6)]),
   S 8 (.bin .geq .none (.t 7) (xI 0)),
   S 4 (.mv (.t 8))])
 (.ret)),
 [.tmp 4], false, false, false⟩
/- (*sibyl/roll.Roll).Len -/
def ra_roll_Roll_Len0 : DC :=
 .skip
def rb_roll_Roll_Len0 : DC :=
 .block 1 (.ops [S 10 (.ld false 1 (.t 5)),
    S 11 (.bin .add .none (.t 10) (xI 1)),
    E (.st 1 (.t 5) (.t 11))])
def d_roll_Roll_Len : DFn := ⟨2,
 .seq (.ops [S 4 (.mv (xI 0))])
 (.seq (.ops [S 5 (.new false [(eI 0)]),
   E (.st 1 (.t 5) (xI 0))])
 (.seq (.seq (.ops [S 6 (.mv (.t 0)),
   S 7 (.mv (.t 1)),
   S 8 (.call n_roll_Roll_Live [(.t 6), (.t 7)])])
 (.block 0 (.range [9] [5] (.t 8) ra_roll_Roll_Len0 rb_roll_Roll_Len0)))
 (.seq (.ops [S 12 (.ld false 1 (.t 5)),
   S 4 (.mv (.t 12))])
 (.ret)))),
 [.tmp 4], false, false, false⟩
/- (*sibyl/roll.Roll).Add -/
def d_roll_Roll_Add : DFn := ⟨3,
 .seq (.ops [S 5 (.box true 3 (.t 2)),
   S 6 (.mv (.v .nilp)),
   S 7 (.mv (xB false))])
 (.seq (.ops [S 9 (.mv (.t 0)),
   S 10 (.call n_roll_Roll_all [(.t 9)]),
   S 8 (.mv (.t 10))])
 (.seq (.seq (.ops [S 11 (.mv (.t 1)),
   S 12 (.bin .lss .none (.t 11) (xI 0)),
   S 13 (.mv (.t 12)),
   ⟨(some 14), .mv (.t 8), (some (13, false)), []⟩,
   ⟨(some 15), .len 0 (.t 14), (some (13, false)), []⟩,
   ⟨(some 16), .bin .gtr .none (.t 15) (xI 0), (some (13, false)), []⟩,
   ⟨(some 17), .mv (.t 16), (some (13, false)), []⟩,
   ⟨(some 18), .mv (.t 1), (some (17, true)), []⟩,
   ⟨(some 19), .mv (.t 8), (some (17, true)), []⟩,
   ⟨(some 20), .mv (.t 8), (some (17, true)), []⟩,
   ⟨(some 21), .len 0 (.t 20), (some (17, true)), []⟩,
   ⟨(some 22), .bin .sub .none (.t 21) (xI 1), (some (17, true)), []⟩,
   ⟨(some 23), .ixa 5 (.t 19) (.t 22), (some (17, true)), []⟩,
   ⟨(some 24), .fld 0 (.t 23), (some (17, true)), []⟩,
   ⟨(some 25), .ld false 1 (.t 24), (some (17, true)), []⟩,
   ⟨(some 26), .bin .leq .none (.t 18) (.t 25), (some (17, true)), []⟩,
   ⟨(some 27), .pick (.t 17) (.t 26) (xB false), (some (13, false)), []⟩,
   S 28 (.pick (.t 13) (xB true) (.t 27))])
 (.cond (.t 28)
  (.seq (.ops [S 29 (.mv (.t 0)),
    S 6 (.mv (.t 29)),
    S 7 (.mv (xB false))])
  (.ret))
  (.skip)))
 (.seq (.ops [S 30 (.mv (.t 8)),
   S 31 (.mv (.t 8)),
   S 32 (.len 0 (.t 31)),
   S 33 (.mv (.t 8)),
   S 34 (.len 0 (.t 33)),
   S 35 (.slc 5 (.t 30) none (some (.t 32)) (some (.t 34))),
   S 36 (.mv (.t 1)),
   S 37 (.ld true 3 (.t 5)),
   S 38 (.build [(eI 0), (eI 0), (.full []), (eI 0), (eB false)] [(0, 1, (.t 36)), (1, 1, (xI (-1))), (2, 3, (.t 37))]),
   S 39 (.lit 5 true [[(eI 0), (eI 0), (.full []), (eI 0), (eB false)]] [(0, (.t 38))]),
   S 40 (.app 5 true 56 (.t 35) (.t 39)),
   S 41 (.build [(.full [])] [(0, 1, (.t 40))]),
   S 42 (.box true 1 (.t 41)),
   S 6 (.mv (.t 42)),
   S 7 (.mv (xB true))])
 (.ret)))),
 [.tmp 6, .tmp 7], false, false, false⟩
/- (*sibyl/roll.Roll).Live -/
def d_roll_Roll_Live : DFn := ⟨2,
 .seq (.ops [S 2 (.box false 1 (.t 0)),
   S 3 (.box false 1 (.t 1)),
   S 4 (.mv (.v .nilf))])
 (.seq (.ops [S 5 (.mkf (.func n_roll_Roll_Live_1) [] [(.t 2), (.t 3)]),
   S 4 (.mv (.t 5))])
 (.ret)),
 [.tmp 4], false, false, false⟩
/- sibyl/route.Owner -/
def d_route_Owner : DFn := ⟨4,
 .seq (.ops [S 8 (.mv (xI 0))])
 (.seq (.seq (.ops [S 9 (.mv (.t 0))])
 (.cond (.t 9)
  (.seq (.ops [S 10 (.mv (.t 2)),
    S 11 (.mv (.t 3)),
    S 12 (.call n_route_Shard [(.t 10), (.t 11)]),
    S 8 (.mv (.t 12))])
  (.ret))
  (.skip)))
 (.seq (.ops [S 13 (.mv (.t 1)),
   S 14 (.mv (.t 3)),
   S 15 (.call n_route_Shard [(.t 13), (.t 14)]),
   S 8 (.mv (.t 15))])
 (.ret))),
 [.tmp 8], false, false, false⟩
/- (sibyl/sibyllaw17.Spec).config -/
def d_sibyllaw17_Spec_config : DFn := ⟨1,
 .seq (.ops [S 1 (.box true 5 (.t 0)),
   S 2 (.new true [(eI 0), (eI 0), (eI 0), (eI 0), (eI 0), (eI 0), (eI 0)])])
 (.seq (.ops [S 3 (.fld 0 (.t 1)),
   S 4 (.ld false 1 (.t 3)),
   S 7 (.fld 1 (.t 1)),
   S 8 (.ld false 1 (.t 7)),
   S 11 (.fld 2 (.t 1)),
   S 12 (.ld false 1 (.t 11)),
   ⟨(some 5), .call n_sibyllaw17_rest [(.t 4), (xI 4)], none, [(12, .ld false 1 (.t 11), none), (8, .ld false 1 (.t 7), none)]⟩,
   S 6 (.bin .add .none (xI 1) (.t 5)),
   ⟨(some 9), .call n_sibyllaw17_rest [(.t 8), (xI 3)], none, [(12, .ld false 1 (.t 11), none)]⟩,
   S 10 (.bin .add .none (xI 1) (.t 9)),
   S 13 (.call n_sibyllaw17_rest [(.t 12), (xI 12)]),
   S 14 (.bin .add .none (xI 1) (.t 13)),
   S 15 (.build [(eI 0), (eI 0), (eI 0), (eI 0), (eI 0), (eI 0), (eI 0)] [(0, 1, (.t 6)), (1, 1, (xI 9)), (2, 1, (xI 99)), (3, 1, (.t 10)), (4, 1, (.t 14)), (5, 1, (xI 99)), (6, 1, (xI 99))]),
   E (.st 7 (.t 2) (.t 15))])
 (.ret)),
 [.cell 2 true 7], false, false, false⟩
/- sibyl/sibylref06.row -/
def d_sibylref06_row : DFn := ⟨2,
 .seq (.ops [S 4 (.mv (xI 0))])
 (.seq (.seq (.ops [S 5 (.mv (xI 0))])
 (.block 0 (.loop [0, 1, 5] (.seq (.seq (.ops [S 6 (.mv (.t 5)),
     S 7 (.mv (.t 0)),
     S 8 (.len 0 (.t 7)),
     S 9 (.bin .lss .none (.t 6) (.t 8)),
     S 10 (.mv (.t 9)),
     ⟨(some 11), .mv (.t 5), (some (10, true)), []⟩,
     ⟨(some 12), .mv (.t 1), (some (10, true)), []⟩,
     ⟨(some 13), .len 0 (.t 12), (some (10, true)), []⟩,
     ⟨(some 14), .bin .lss .none (.t 11) (.t 13), (some (10, true)), []⟩,
     S 15 (.pick (.t 10) (.t 14) (xB false))])
   (.cond (.t 15)
    (.skip)
    (.exit 0)))
   (.seq (.block 1 (.seq (.seq (.ops [S 18 (.mv (.t 0)),
      S 19 (.mv (.t 5)),
      S 20 (.ixa 1 (.t 18) (.t 19)),
      S 21 (.ld false 1 (.t 20)),
      S 22 (.mv (.t 1)),
      S 23 (.mv (.t 5)),
      S 24 (.ixa 1 (.t 22) (.t 23)),
      S 25 (.ld false 1 (.t 24)),
      S 26 (.bin .lss .none (.t 21) (.t 25))])
    (.cond (.t 26)
     (.seq (.ops [S 4 (.mv (xI (-1)))])
     (.ret))
     (.skip)))
    (.seq (.ops [S 27 (.mv (.t 0)),
      S 28 (.mv (.t 5)),
      S 29 (.ixa 1 (.t 27) (.t 28)),
      S 30 (.ld false 1 (.t 29)),
      S 31 (.mv (.t 1)),
      S 32 (.mv (.t 5)),
      S 33 (.ixa 1 (.t 31) (.t 32)),
      S 34 (.ld false 1 (.t 33)),
      S 35 (.bin .gtr .none (.t 30) (.t 34))])
    (.cond (.t 35)
     (.seq (.ops [S 4 (.mv (xI 1))])
     (.ret))
     (.skip)))))
   (.ops [S 16 (.mv (.t 5)),
     S 17 (.bin .add .none (.t 16) (xI 1)),
     S 5 (.mv (.t 17))]))))))
 (.seq (.seq (.ops [S 36 (.mv (.t 0)),
   S 37 (.len 0 (.t 36)),
   S 38 (.mv (.t 1)),
   S 39 (.len 0 (.t 38)),
   S 40 (.bin .lss .none (.t 37) (.t 39))])
 (.cond (.t 40)
  (.seq (.ops [S 4 (.mv (xI (-1)))])
  (.ret))
  (.skip)))
 (.seq (.seq (.ops [S 41 (.mv (.t 0)),
   S 42 (.len 0 (.t 41)),
   S 43 (.mv (.t 1)),
   S 44 (.len 0 (.t 43)),
   S 45 (.bin .gtr .none (.t 42) (.t 44))])
 (.cond (.t 45)
  (.seq (.ops [S 4 (.mv (xI 1))])
  (.ret))
  (.skip)))
 (.seq (.ops [S 4 (.mv (xI 0))])
 (.ret))))),
 [.tmp 4], false, false, false⟩
/- slices.Concat[[]int,int] -/
def d_slices_Concat : DFn := ⟨1,
 .seq (.ops [S 2 (.nils 1 false)])
 (.seq (.ops [S 3 (.mv (xI 0))])
 (.seq (.seq (.ops [S 9 (.mv (.t 0)),
   S 10 (.len 0 (.t 9)),
   S 11 (.mv (xI 0))])
 (.block 0 (.loop [0, 3, 9, 10, 11] (.seq (.ops [S 12 (.bin .lss .none (.t 11) (.t 10))])
   (.seq (.cond (.t 12)
    (.skip)
    (.exit 0))
   (.seq (.block 1 (.seq (.ops [S 13 (.ixa 1 (.t 9) (.t 11)),
      S 14 (.ld false 1 (.t 13)),
      S 5 (.mv (.t 14))])
    (.seq (.ops [S 15 (.mv (.t 3)),
      S 16 (.mv (.t 5)),
      S 17 (.len 0 (.t 16)),
      S 18 (.bin .add .none (.t 15) (.t 17)),
      S 3 (.mv (.t 18))])
    (.seq (.ops [S 19 (.mv (.t 3)),
      S 20 (.bin .lss .none (.t 19) (xI 0))])
    (.cond (.t 20)
     (.ops [E (.nz (.v .junk))])
     (.skip))))))
   (.ops [S 22 (.bin .add .none (.t 11) (xI 1)),
     S 11 (.mv (.t 22))])))))))
 (.seq (.ops [S 23 (.mv (.t 3)),
   S 24 (.call n_slices_Grow [(.v (.full [])), (.t 23)]),
   S 6 (.mv (.t 24))])
 (.seq (.seq (.ops [S 25 (.mv (.t 0)),
   S 26 (.len 0 (.t 25)),
   S 27 (.mv (xI 0))])
 (.block 2 (.loop [6, 25, 26, 27] (.seq (.ops [S 28 (.bin .lss .none (.t 27) (.t 26))])
   (.seq (.cond (.t 28)
    (.skip)
    (.exit 2))
   (.seq (.block 3 (.seq (.ops [S 29 (.ixa 1 (.t 25) (.t 27)),
      S 30 (.ld false 1 (.t 29)),
      S 8 (.mv (.t 30))])
    (.ops [S 31 (.mv (.t 6)),
      S 32 (.mv (.t 8)),
      S 33 (.app 1 false 8 (.t 31) (.t 32)),
      S 6 (.mv (.t 33))])))
   (.ops [S 34 (.bin .add .none (.t 27) (xI 1)),
     S 27 (.mv (.t 34))])))))))
 (.seq (.ops [S 35 (.mv (.t 6)),
   S 2 (.mv (.t 35))])
 (.ret)))))),
 [.tmp 2], false, false, false⟩
/- sibyl/step.takes -/
def d_step_takes : DFn := ⟨4,
 .seq (.ops [S 4 (.box true 3 (.t 0)),
   S 6 (.box true 3 (.t 2)),
   S 8 (.mv (xB false))])
 (.seq (.ops [S 10 (.fld 0 (.t 4)),
   S 11 (.ld false 1 (.t 10)),
   S 12 (.mv (.t 3)),
   S 13 (.ixa 4 (.t 11) (.t 12)),
   S 14 (.ld true 4 (.t 13)),
   S 9 (.new true [(eI 0), (eB false), (.full []), (.full [])]),
   E (.st 4 (.t 9) (.t 14))])
 (.seq (.ops [S 15 (.fld 0 (.t 9)),
   S 16 (.ld false 1 (.t 15)),
   S 17 (.mv (.t 1)),
   S 18 (.mv (.t 1)),
   S 19 (.len 0 (.t 18)),
   S 20 (.bin .sub .none (.t 19) (xI 1)),
   S 21 (.ixa 6 (.t 17) (.t 20)),
   S 22 (.fld 0 (.t 21)),
   S 23 (.ld false 1 (.t 22)),
   S 24 (.bin .eql .none (.t 16) (.t 23)),
   S 25 (.mv (.t 24)),
   ⟨(some 26), .fld 2 (.t 9), (some (25, true)), []⟩,
   ⟨(some 27), .ld false 1 (.t 26), (some (25, true)), []⟩,
   ⟨(some 28), .mv (.t 1), (some (25, true)), []⟩,
   ⟨(some 29), .ld true 3 (.t 6), (some (25, true)), []⟩,
   ⟨(some 30), .mv (.t 3), (some (25, true)), []⟩,
   ⟨(some 31), .call n_step_sets [(.t 28), (.t 29), (.t 30)], (some (25, true)), [(27, .ld false 1 (.t 26), (some (25, true)))]⟩,
   ⟨(some 32), .call n_pred_All [(.t 27), (.t 31)], (some (25, true)), []⟩,
   S 33 (.pick (.t 25) (.t 32) (xB false)),
   S 8 (.mv (.t 33))])
 (.ret))),
 [.tmp 8], false, false, false⟩
/- slices.insertionSortCmpFunc[sibyl/api.Found] -/
def d_slices_insertionSortCmpFunc : DFn := ⟨4,
 .seq (.ops [S 10 (.mv (.t 1)),
   S 11 (.bin .add .none (.t 10) (xI 1)),
   S 8 (.mv (.t 11))])
 (.block 0 (.loop [0, 1, 2, 3, 8] (.seq (.seq (.ops [S 12 (.mv (.t 8)),
     S 13 (.mv (.t 2)),
     S 14 (.bin .lss .none (.t 12) (.t 13))])
   (.cond (.t 14)
    (.skip)
    (.exit 0)))
   (.seq (.block 1 (.seq (.ops [S 17 (.mv (.t 8)),
      S 9 (.mv (.t 17))])
    (.block 2 (.loop [0, 1, 2, 3, 8, 9] (.seq (.seq (.ops [S 18 (.mv (.t 9)),
        S 19 (.mv (.t 1)),
        S 20 (.bin .gtr .none (.t 18) (.t 19)),
        S 21 (.mv (.t 20)),
        ⟨(some 22), .mv (.t 3), (some (21, true)), []⟩,
        ⟨(some 23), .mv (.t 0), (some (21, true)), []⟩,
        ⟨(some 24), .mv (.t 9), (some (21, true)), []⟩,
        ⟨(some 25), .ixa 2 (.t 23) (.t 24), (some (21, true)), []⟩,
        ⟨(some 26), .ld true 2 (.t 25), (some (21, true)), []⟩,
        ⟨(some 27), .mv (.t 0), (some (21, true)), []⟩,
        ⟨(some 28), .mv (.t 9), (some (21, true)), []⟩,
        ⟨(some 29), .bin .sub .none (.t 28) (xI 1), (some (21, true)), []⟩,
        ⟨(some 30), .ixa 2 (.t 27) (.t 29), (some (21, true)), []⟩,
        ⟨(some 31), .ld true 2 (.t 30), (some (21, true)), []⟩,
        ⟨(some 32), .callv (.t 22) [(.t 26), (.t 31)], (some (21, true)), []⟩,
        ⟨(some 33), .bin .lss .none (.t 32) (xI 0), (some (21, true)), []⟩,
        S 34 (.pick (.t 21) (.t 33) (xB false))])
      (.cond (.t 34)
       (.skip)
       (.exit 2)))
      (.seq (.block 3 (.ops [S 37 (.mv (.t 0)),
         S 38 (.mv (.t 9)),
         S 39 (.mv (.t 0)),
         S 40 (.mv (.t 9)),
         S 41 (.bin .sub .none (.t 40) (xI 1)),
         S 42 (.mv (.t 0)),
         S 43 (.mv (.t 9)),
         S 44 (.bin .sub .none (.t 43) (xI 1)),
         S 45 (.ixa 2 (.t 42) (.t 44)),
         S 46 (.ld true 2 (.t 45)),
         S 47 (.mv (.t 0)),
         S 48 (.mv (.t 9)),
         S 49 (.ixa 2 (.t 47) (.t 48)),
         S 50 (.ld true 2 (.t 49)),
         S 51 (.ixa 2 (.t 37) (.t 38)),
         E (.st 2 (.t 51) (.t 46)),
         S 52 (.ixa 2 (.t 39) (.t 41)),
         E (.st 2 (.t 52) (.t 50))]))
      (.ops [S 35 (.mv (.t 9)),
        S 36 (.bin .sub .none (.t 35) (xI 1)),
        S 9 (.mv (.t 36))])))))))
   (.ops [S 15 (.mv (.t 8)),
     S 16 (.bin .add .none (.t 15) (xI 1)),
     S 8 (.mv (.t 16))]))))),
 [], false, false, false⟩
/- slices.IndexFunc[[]sibyl/api.Guard,sibyl/api.Guard] -/
def d_slices_IndexFunc : DFn := ⟨2,
 .seq (.ops [S 4 (.mv (xI 0))])
 (.seq (.seq (.ops [S 6 (.mv (.t 0)),
   S 7 (.len 0 (.t 6)),
   S 8 (.mv (xI 0))])
 (.block 0 (.loop [0, 1, 7, 8] (.seq (.ops [S 9 (.bin .lss .none (.t 8) (.t 7))])
   (.seq (.cond (.t 9)
    (.skip)
    (.exit 0))
   (.seq (.block 1 (.seq (.ops [S 10 (.mv (.t 8)),
      S 5 (.mv (.t 10))])
    (.seq (.ops [S 11 (.mv (.t 1)),
      S 12 (.mv (.t 0)),
      S 13 (.mv (.t 5)),
      S 14 (.ixa 2 (.t 12) (.t 13)),
      S 15 (.ld true 2 (.t 14)),
      S 16 (.callv (.t 11) [(.t 15)])])
    (.cond (.t 16)
     (.seq (.ops [S 17 (.mv (.t 5)),
       S 4 (.mv (.t 17))])
     (.ret))
     (.skip)))))
   (.ops [S 18 (.bin .add .none (.t 8) (xI 1)),
     S 8 (.mv (.t 18))])))))))
 (.seq (.ops [S 4 (.mv (xI (-1)))])
 (.ret))),
 [.tmp 4], false, false, false⟩
/- (*sibyl/roll.Roll).all -/
def d_roll_Roll_all : DFn := ⟨1,
 .seq (.ops [S 2 (.nils 5 true)])
 (.seq (.seq (.ops [S 3 (.mv (.t 0)),
   S 4 (.bin .eql .ptr (.t 3) (.v .nilp))])
 (.cond (.t 4)
  (.seq (.ops [S 2 (.nils 5 true)])
  (.ret))
  (.skip)))
 (.seq (.ops [S 5 (.mv (.t 0)),
   S 6 (.nz (.t 5)),
   S 7 (.fld 0 (.t 6)),
   S 8 (.ld false 1 (.t 7)),
   S 2 (.mv (.t 8))])
 (.ret))),
 [.tmp 2], false, false, false⟩
/- (*sibyl/roll.Roll).Live$1 -/
def d_roll_Roll_Live_1 : DFn := ⟨3,
 .seq (.ops [S 6 (.ld false 1 (.t 1)),
   S 7 (.call n_roll_Roll_all [(.t 6)]),
   S 8 (.len 0 (.t 7)),
   S 9 (.mv (xI 0))])
 (.block 0 (.loop [0, 2, 7, 8, 9] (.seq (.ops [S 10 (.bin .lss .none (.t 9) (.t 8))])
   (.seq (.cond (.t 10)
    (.skip)
    (.exit 0))
   (.seq (.block 1 (.seq (.ops [S 11 (.ixa 5 (.t 7) (.t 9)),
      S 12 (.ld true 5 (.t 11)),
      S 5 (.new true [(eI 0), (eI 0), (.full []), (eI 0), (eB false)]),
      E (.st 5 (.t 5) (.t 12))])
    (.seq (.ops [S 13 (.ld false 1 (.t 2)),
      S 14 (.fld 0 (.t 5)),
      S 15 (.ld false 1 (.t 14)),
      S 16 (.bin .gtr .none (.t 13) (.t 15)),
      S 17 (.mv (.t 16)),
      ⟨(some 18), .fld 1 (.t 5), (some (17, true)), []⟩,
      ⟨(some 19), .ld false 1 (.t 18), (some (17, true)), []⟩,
      ⟨(some 20), .bin .eql .none (.t 19) (xI (-1)), (some (17, true)), []⟩,
      ⟨(some 21), .mv (.t 20), (some (17, true)), []⟩,
      ⟨(some 22), .ld false 1 (.t 2), (some (21, false)), []⟩,
      ⟨(some 23), .fld 1 (.t 5), (some (21, false)), []⟩,
      ⟨(some 24), .ld false 1 (.t 23), (some (21, false)), []⟩,
      ⟨(some 25), .bin .leq .none (.t 22) (.t 24), (some (21, false)), []⟩,
      ⟨(some 26), .pick (.t 21) (xB true) (.t 25), (some (17, true)), []⟩,
      S 27 (.pick (.t 17) (.t 26) (xB false)),
      S 28 (.mv (.t 27)),
      ⟨(some 29), .mv (.t 0), (some (28, true)), []⟩,
      ⟨(some 30), .ld true 5 (.t 5), (some (28, true)), []⟩,
      ⟨(some 31), .callv (.t 29) [(.t 30)], (some (28, true)), []⟩,
      ⟨(some 32), .un .not (.t 31), (some (28, true)), []⟩,
      S 33 (.pick (.t 28) (.t 32) (xB false))])
    (.cond (.t 33)
     (.ret)
     (.skip)))))
   (.ops [S 34 (.bin .add .none (.t 9) (xI 1)),
     S 9 (.mv (.t 34))])))))),
 [], false, false, false⟩
/- sibyl/route.Shard -/
def d_route_Shard : DFn := ⟨2,
 .seq (.ops [S 4 (.mv (xI 0))])
 (.seq (.seq (.ops [S 5 (.mv (.t 1)),
   S 6 (.bin .lss .none (.t 5) (xI 1))])
 (.cond (.t 6)
  (.seq (.ops [S 4 (.mv (xI 0))])
  (.ret))
  (.skip)))
 (.seq (.ops [S 7 (.mv (.t 0)),
   S 8 (.call n_route_Mix [(.t 7)]),
   S 9 (.mv (.t 1)),
   S 10 (.conv .u64 (.t 9)),
   S 11 (.bin .rem .none (.t 8) (.t 10)),
   S 12 (.conv .i64 (.t 11)),
   S 4 (.mv (.t 12))])
 (.ret))),
 [.tmp 4], false, false, false⟩
/- sibyl/sibyllaw17.rest -/
def d_sibyllaw17_rest : DFn := ⟨2,
 .seq (.ops [S 4 (.mv (xI 0))])
 (.seq (.ops [S 5 (.mv (.t 0)),
   S 6 (.mv (.t 1)),
   S 7 (.bin .rem .none (.t 5) (.t 6)),
   S 8 (.mv (.t 1)),
   S 9 (.bin .add .none (.t 7) (.t 8)),
   S 10 (.mv (.t 1)),
   S 11 (.bin .rem .none (.t 9) (.t 10)),
   S 4 (.mv (.t 11))])
 (.ret)),
 [.tmp 4], false, false, false⟩
/- slices.Grow[[]int,int] -/
def d_slices_Grow : DFn := ⟨2,
 .seq (.ops [S 4 (.nils 1 false)])
 (.seq (.seq (.ops [S 5 (.mv (.t 1)),
   S 6 (.bin .lss .none (.t 5) (xI 0))])
 (.cond (.t 6)
  (.ops [E (.nz (.v .junk))])
  (.skip)))
 (.seq (.seq (.ops [S 8 (.mv (.t 1)),
   S 9 (.mv (.t 0)),
   S 10 (.cap (.t 9)),
   S 11 (.mv (.t 0)),
   S 12 (.len 0 (.t 11)),
   S 13 (.bin .sub .none (.t 10) (.t 12)),
   S 14 (.bin .sub .none (.t 8) (.t 13)),
   S 1 (.mv (.t 14))])
 (.seq (.ops [S 15 (.mv (.t 1)),
   S 16 (.bin .gtr .none (.t 15) (xI 0))])
 (.cond (.t 16)
  (.ops [S 17 (.mv (.t 0)),
    S 18 (.mv (.t 0)),
    S 19 (.cap (.t 18)),
    S 20 (.slc 1 (.t 17) none (some (.t 19)) none),
    S 21 (.mv (.t 1)),
    S 22 (.appz 1 false 8 [(eI 0)] (.t 20) (.t 21)),
    S 23 (.mv (.t 0)),
    S 24 (.len 0 (.t 23)),
    S 25 (.slc 1 (.t 22) none (some (.t 24)) none),
    S 0 (.mv (.t 25))])
  (.skip))))
 (.seq (.ops [S 26 (.mv (.t 0)),
   S 4 (.mv (.t 26))])
 (.ret)))),
 [.tmp 4], false, false, false⟩
/- sibyl/pred.All -/
def d_pred_All : DFn := ⟨2,
 .seq (.ops [S 4 (.mv (xB false))])
 (.seq (.seq (.ops [S 7 (.mv (.t 0)),
   S 8 (.len 0 (.t 7)),
   S 9 (.mv (xI 0))])
 (.block 0 (.loop [1, 7, 8, 9] (.seq (.ops [S 10 (.bin .lss .none (.t 9) (.t 8))])
   (.seq (.cond (.t 10)
    (.skip)
    (.exit 0))
   (.seq (.block 1 (.seq (.ops [S 11 (.ixa 3 (.t 7) (.t 9)),
      S 12 (.ld true 3 (.t 11)),
      S 6 (.new true [(eI 0), (.full []), (.full [])]),
      E (.st 3 (.t 6) (.t 12))])
    (.seq (.ops [S 13 (.ld true 3 (.t 6)),
      S 14 (.mv (.t 1)),
      S 15 (.call 128 [(.t 13), (.t 14)]),
      S 16 (.un .not (.t 15))])
    (.cond (.t 16)
     (.seq (.ops [S 4 (.mv (xB false))])
     (.ret))
     (.skip)))))
   (.ops [S 17 (.bin .add .none (.t 9) (xI 1)),
     S 9 (.mv (.t 17))])))))))
 (.seq (.ops [S 4 (.mv (xB true))])
 (.ret))),
 [.tmp 4], false, false, false⟩
/- sibyl/step.sets -/
def d_step_sets : DFn := ⟨3,
 .seq (.ops [S 4 (.box true 3 (.t 1)),
   S 6 (.nils 1 false)])
 (.seq (.ops [S 12 (.fld 1 (.t 4)),
   S 13 (.ld false 1 (.t 12)),
   S 14 (.len 0 (.t 13)),
   S 15 (.mv (.t 2)),
   S 16 (.bin .add .none (.t 15) (xI 1)),
   S 17 (.mnx true (.t 14) (.t 16)),
   S 18 (.mks 1 false 24 [(.full [])] (.t 17) (.t 17)),
   S 7 (.mv (.t 18))])
 (.seq (.seq (.ops [S 19 (.fld 1 (.t 4)),
   S 20 (.ld false 1 (.t 19)),
   S 21 (.len 0 (.t 20)),
   S 22 (.mv (xI 0))])
 (.block 0 (.loop [0, 2, 7, 20, 21, 22] (.seq (.ops [S 23 (.bin .lss .none (.t 22) (.t 21))])
   (.seq (.cond (.t 23)
    (.skip)
    (.exit 0))
   (.seq (.block 1 (.seq (.ops [S 24 (.mv (.t 22)),
      S 25 (.ixa 1 (.t 20) (.t 22)),
      S 26 (.ld false 1 (.t 25)),
      S 8 (.mv (.t 24)),
      S 9 (.mv (.t 26))])
    (.seq (.ops [S 27 (.mv (.t 9)),
      S 28 (.len 0 (.t 27)),
      S 29 (.mv (xI 0))])
    (.block 2 (.loop [0, 2, 7, 8, 20, 21, 22, 27, 28, 29] (.seq (.ops [S 30 (.bin .lss .none (.t 29) (.t 28))])
      (.seq (.cond (.t 30)
       (.skip)
       (.exit 2))
      (.seq (.block 3 (.seq (.ops [S 31 (.ixa 1 (.t 27) (.t 29)),
         S 32 (.ld false 1 (.t 31)),
         S 11 (.mv (.t 32))])
       (.ops [S 33 (.mv (.t 7)),
         S 34 (.mv (.t 8)),
         S 35 (.mv (.t 7)),
         S 36 (.mv (.t 8)),
         S 37 (.ixa 1 (.t 35) (.t 36)),
         S 38 (.ld false 1 (.t 37)),
         S 39 (.mv (.t 0)),
         S 40 (.mv (.t 11)),
         S 41 (.ixa 6 (.t 39) (.t 40)),
         S 42 (.ld true 6 (.t 41)),
         S 43 (.lit 6 true [[(eI 0), (eI 0), (eI 0), (eI 0), (eI 0), (eI 0)]] [(0, (.t 42))]),
         S 44 (.app 6 true 48 (.t 38) (.t 43)),
         S 45 (.ixa 1 (.t 33) (.t 34)),
         E (.st 1 (.t 45) (.t 44))])))
      (.ops [S 46 (.bin .add .none (.t 29) (xI 1)),
        S 29 (.mv (.t 46))])))))))))
   (.ops [S 47 (.bin .add .none (.t 22) (xI 1)),
     S 22 (.mv (.t 47))])))))))
 (.seq (.ops [S 48 (.mv (.t 7)),
   S 49 (.mv (.t 2)),
   S 50 (.mv (.t 7)),
   S 51 (.mv (.t 2)),
   S 52 (.ixa 1 (.t 50) (.t 51)),
   S 53 (.ld false 1 (.t 52)),
   S 54 (.mv (.t 0)),
   S 55 (.mv (.t 0)),
   S 56 (.len 0 (.t 55)),
   S 57 (.bin .sub .none (.t 56) (xI 1)),
   S 58 (.ixa 6 (.t 54) (.t 57)),
   S 59 (.ld true 6 (.t 58)),
   S 60 (.lit 6 true [[(eI 0), (eI 0), (eI 0), (eI 0), (eI 0), (eI 0)]] [(0, (.t 59))]),
   S 61 (.app 6 true 48 (.t 53) (.t 60)),
   S 62 (.ixa 1 (.t 48) (.t 49)),
   E (.st 1 (.t 62) (.t 61))])
 (.seq (.ops [S 63 (.mv (.t 7)),
   S 6 (.mv (.t 63))])
 (.ret))))),
 [.tmp 6], false, false, false⟩
/- sibyl/route.Mix -/
def d_route_Mix : DFn := ⟨1,
 .seq (.ops [S 2 (.mv (.v (.p (.int .u64 0))))])
 (.seq (.ops [S 7 (.mv (.t 0)),
   S 8 (.conv .u64 (.t 7)),
   S 9 (.bin .add .none (.t 8) (.v (.p (.int .u64 11400714819323198485)))),
   S 3 (.new false [(.p (.int .u64 0))]),
   E (.st 1 (.t 3) (.t 9))])
 (.seq (.ops [S 10 (.mkf (.func n_route_Mix_1) [] [(.t 3)]),
   S 4 (.mv (.t 10))])
 (.seq (.seq (.ops [S 11 (.build [(.p (.int .u64 0)), (.p (.int .u64 0))] [(0, 1, (.v (.p (.int .u64 30)))), (1, 1, (.v (.p (.int .u64 13787848793156543929))))]),
   S 12 (.build [(.p (.int .u64 0)), (.p (.int .u64 0))] [(0, 1, (.v (.p (.int .u64 27)))), (1, 1, (.v (.p (.int .u64 10723151780598845931))))]),
   S 13 (.build [(.p (.int .u64 0)), (.p (.int .u64 0))] [(0, 1, (.v (.p (.int .u64 31)))), (1, 1, (.v (.p (.int .u64 1))))]),
   S 14 (.build [(.p (.int .u64 0)), (.p (.int .u64 0)), (.p (.int .u64 0)), (.p (.int .u64 0)), (.p (.int .u64 0)), (.p (.int .u64 0))] [(0, 2, (.t 11)), (2, 2, (.t 12)), (4, 2, (.t 13))]),
   S 15 (.mv (xI 0))])
 (.block 0 (.loop [3, 4, 14, 15] (.seq (.ops [S 16 (.bin .lss .none (.t 15) (xI 3))])
   (.seq (.cond (.t 16)
    (.skip)
    (.exit 0))
   (.seq (.block 1 (.seq (.ops [S 17 (.ixg 3 2 true (.t 14) (.t 15)),
      S 6 (.new true [(.p (.int .u64 0)), (.p (.int .u64 0))]),
      E (.st 2 (.t 6) (.t 17))])
    (.ops [S 18 (.mv (.t 4)),
      S 19 (.ld true 2 (.t 6)),
      S 20 (.callv (.t 18) [(.t 19)])])))
   (.ops [S 21 (.bin .add .none (.t 15) (xI 1)),
     S 15 (.mv (.t 21))])))))))
 (.seq (.ops [S 22 (.ld false 1 (.t 3)),
   S 2 (.mv (.t 22))])
 (.ret))))),
 [.tmp 2], false, false, false⟩
/- sibyl/route.Mix$1 -/
def d_route_Mix_1 : DFn := ⟨2,
 .seq (.ops [S 2 (.box true 2 (.t 0))])
 (.ops [S 3 (.ld false 1 (.t 1)),
   S 4 (.ld false 1 (.t 1)),
   S 5 (.fld 0 (.t 2)),
   S 6 (.ld false 1 (.t 5)),
   S 7 (.bin .shr .none (.t 4) (.t 6)),
   S 8 (.bin .xor .none (.t 3) (.t 7)),
   S 9 (.fld 1 (.t 2)),
   S 10 (.ld false 1 (.t 9)),
   S 11 (.bin .mul .none (.t 8) (.t 10)),
   E (.st 1 (.t 1) (.t 11))]),
 [], false, false, false⟩

def progList : List (Nat × DFn) := [(n_sibyllaw17_ShardNil, d_sibyllaw17_ShardNil), (n_runs_Runs_Feed, d_runs_Runs_Feed), (n_runs_New, d_runs_New), (n_shard_Shard_Apply, d_shard_Shard_Apply), (n_sibyllaw17_awake, d_sibyllaw17_awake), (n_shard_Shard_Runs, d_shard_Shard_Runs), (n_shard_Shard_Misses, d_shard_Shard_Misses), (n_shard_Shard_Roll, d_shard_Shard_Roll), (n_shard_New, d_shard_New), (n_runs_Runs_grow, d_runs_Runs_grow), (n_runs_Runs_Feed_1, d_runs_Runs_Feed_1), (n_step_Done, d_step_Done), (n_runs_mapped, d_runs_mapped), (n_runs_Runs_found, d_runs_Runs_found), (n_slices_SortStableFunc, d_slices_SortStableFunc), (n_table_Right, d_table_Right), (n_chain_New, d_chain_New), (n_shard_Shard_register, d_shard_Shard_register), (n_shard_Shard_publish, d_shard_Shard_publish), (n_sibyllaw17_world, d_sibyllaw17_world), (n_sibyllaw17_World_apply, d_sibyllaw17_World_apply), (n_sibylref06_Compare, d_sibylref06_Compare), (n_shard_within, d_shard_within), (n_tuple_Flat, d_tuple_Flat), (n_step_Start, d_step_Start), (n_runs_Runs_found_1, d_runs_Runs_found_1), (n_runs_mapped_53, d_runs_mapped_53), (n_runs_Runs_found_2, d_runs_Runs_found_2), (n_runs_mapped_55, d_runs_mapped_55), (n_runs_Runs_found_2_1, d_runs_Runs_found_2_1), (n_runs_mapped_57, d_runs_mapped_57), (n_runs_Runs_found_3, d_runs_Runs_found_3), (n_slices_stableCmpFunc, d_slices_stableCmpFunc), (n_table_typed, d_table_typed), (n_table_may, d_table_may), (n_slices_ContainsFunc, d_slices_ContainsFunc), (n_roll_Roll_Len, d_roll_Roll_Len), (n_roll_Roll_Add, d_roll_Roll_Add), (n_roll_Roll_Live, d_roll_Roll_Live), (n_route_Owner, d_route_Owner), (n_sibyllaw17_Spec_config, d_sibyllaw17_Spec_config), (n_sibylref06_row, d_sibylref06_row), (n_slices_Concat, d_slices_Concat), (n_step_takes, d_step_takes), (n_slices_insertionSortCmpFunc, d_slices_insertionSortCmpFunc), (n_slices_IndexFunc, d_slices_IndexFunc), (n_roll_Roll_all, d_roll_Roll_all), (n_roll_Roll_Live_1, d_roll_Roll_Live_1), (n_route_Shard, d_route_Shard), (n_sibyllaw17_rest, d_sibyllaw17_rest), (n_slices_Grow, d_slices_Grow), (n_pred_All, d_pred_All), (n_step_sets, d_step_sets), (n_route_Mix, d_route_Mix), (n_route_Mix_1, d_route_Mix_1)]
end Dk.S
