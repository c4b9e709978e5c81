/- D's code of the functions, printed by a program of mine (DPrint). -/
import Derived.Test.YtcbigcpdbidlaaaDk4
set_option linter.unusedVariables false
set_option linter.unusedSimpArgs false
namespace Dk.A
open Go Dk
abbrev n_StoreFull : Nat := 3
abbrev n_awake : Nat := 15
abbrev n_rest : Nat := 16
abbrev n_New : Nat := 17
abbrev n_Take : Nat := 18
abbrev n_Used : Nat := 19
abbrev n_Free : Nat := 20
abbrev n_Add : Nat := 21
abbrev n_Get : Nat := 22
abbrev n_Count : Nat := 23
abbrev n_Live : Nat := 24
abbrev n_with : Nat := 47
abbrev n_Free1 : Nat := 48
abbrev n_Add1 : Nat := 49
abbrev n_Get1 : Nat := 50
abbrev n_Count1 : Nat := 51
/- sibyl/sibyllaw11.StoreFull -/
def d_StoreFull : DFn := ⟨2,
 .seq (.ops [S 4 (.mv (xB false))])
 (.seq (.ops [S 23 (.call n_awake []),
   S 5 (.mv (.t 23))])
 (.seq (.ops [S 24 (.mv (.t 0)),
   S 25 (.call n_rest [(.t 24), (xI 40)]),
   S 26 (.bin .add .none (xI 1) (.t 25)),
   S 6 (.mv (.t 26))])
 (.seq (.ops [S 27 (.mv (.t 6)),
   S 28 (.call n_New [(.t 27)]),
   S 7 (.mv (.t 28))])
 (.seq (.seq (.ops [S 8 (.mv (xI 0))])
 (.block 0 (.loop [1, 5, 6, 7, 8] (.seq (.seq (.ops [S 29 (.mv (.t 8)),
     S 30 (.mv (.t 6)),
     S 31 (.bin .lss .none (.t 29) (.t 30))])
   (.cond (.t 31)
    (.skip)
    (.exit 0)))
   (.seq (.block 1 (.seq (.ops [S 35 (.mv (.t 7)),
      S 36 (.mv (.t 8)),
      S 37 (.build [(eI 0), (eI 0), (eI 0), (eI 0), (eI 0), (eI 0)] [(1, 1, (.t 36))]),
      S 38 (.call n_Take [(.t 35), (.t 37)]),
      S 34 (.mv (.t 38)),
      S 39 (.ext (.t 34) 0),
      S 40 (.ext (.t 34) 1),
      S 9 (.new true [(eI 0), (eI 0)]),
      E (.st 2 (.t 9) (.t 39)),
      S 10 (.mv (.t 40))])
    (.seq (.ops [S 41 (.mv (.t 10)),
      S 42 (.un .not (.t 41)),
      S 43 (.mv (.t 42)),
      ⟨(some 44), .fld 0 (.t 9), (some (43, false)), []⟩,
      ⟨(some 45), .ld false 1 (.t 44), (some (43, false)), []⟩,
      ⟨(some 46), .mv (.t 8), (some (43, false)), []⟩,
      ⟨(some 47), .bin .neq .none (.t 45) (.t 46), (some (43, false)), []⟩,
      S 48 (.pick (.t 43) (xB true) (.t 47)),
      S 49 (.mv (.t 48)),
      ⟨(some 50), .fld 1 (.t 9), (some (49, false)), []⟩,
      ⟨(some 51), .ld false 1 (.t 50), (some (49, false)), []⟩,
      ⟨(some 52), .bin .neq .none (.t 51) (xI 0), (some (49, false)), []⟩,
      S 53 (.pick (.t 49) (xB true) (.t 52)),
      S 54 (.mv (.t 53)),
      ⟨(some 55), .mv (.t 7), (some (54, false)), []⟩,
      ⟨(some 56), .call n_Used [(.t 55)], (some (54, false)), []⟩,
      ⟨(some 57), .mv (.t 8), (some (54, false)), []⟩,
      ⟨(some 58), .bin .add .none (.t 57) (xI 1), (some (54, false)), []⟩,
      ⟨(some 59), .bin .neq .none (.t 56) (.t 58), (some (54, false)), []⟩,
      S 60 (.pick (.t 54) (xB true) (.t 59))])
    (.cond (.t 60)
     (.seq (.ops [S 4 (.mv (xB false))])
     (.ret))
     (.skip)))))
   (.ops [S 32 (.mv (.t 8)),
     S 33 (.bin .add .none (.t 32) (xI 1)),
     S 8 (.mv (.t 33))]))))))
 (.seq (.ops [S 62 (.mv (.t 7)),
   S 63 (.build [(eI 0), (eI 0), (eI 0), (eI 0), (eI 0), (eI 0)] []),
   S 64 (.call n_Take [(.t 62), (.t 63)]),
   S 61 (.mv (.t 64)),
   S 65 (.ext (.t 61) 0),
   S 66 (.ext (.t 61) 1),
   S 11 (.new true [(eI 0), (eI 0)]),
   E (.st 2 (.t 11) (.t 65)),
   S 12 (.mv (.t 66))])
 (.seq (.ops [S 67 (.mv (.t 1)),
   S 68 (.mv (.t 6)),
   S 69 (.call n_rest [(.t 67), (.t 68)]),
   S 13 (.mv (.t 69))])
 (.seq (.ops [S 70 (.mv (.t 13)),
   S 71 (.build [(eI 0), (eI 0)] [(0, 1, (.t 70))]),
   S 14 (.new true [(eI 0), (eI 0)]),
   E (.st 2 (.t 14) (.t 71))])
 (.seq (.ops [S 72 (.mv (.t 7)),
   S 73 (.ld true 2 (.t 14)),
   S 74 (.call n_Free [(.t 72), (.t 73)]),
   S 15 (.mv (.t 74))])
 (.seq (.ops [S 75 (.mv (.t 7)),
   S 76 (.ld true 2 (.t 14)),
   S 77 (.call n_Add [(.t 75), (.t 76), (xI (-1))])])
 (.seq (.ops [S 79 (.mv (.t 7)),
   S 80 (.build [(eI 0), (eI 0), (eI 0), (eI 0), (eI 0), (eI 0)] []),
   S 81 (.call n_Take [(.t 79), (.t 80)]),
   S 78 (.mv (.t 81)),
   S 82 (.ext (.t 78) 0),
   S 83 (.ext (.t 78) 1),
   S 16 (.new true [(eI 0), (eI 0)]),
   E (.st 2 (.t 16) (.t 82)),
   S 17 (.mv (.t 83))])
 (.seq (.ops [S 84 (.mv (.t 7)),
   S 85 (.ld true 2 (.t 14)),
   S 86 (.call n_Free [(.t 84), (.t 85)]),
   S 18 (.mv (.t 86))])
 (.seq (.ops [S 88 (.mv (.t 7)),
   S 89 (.build [(eI 0), (eI 0), (eI 0), (eI 0), (eI 0), (eI 0)] [(1, 1, (xI 99))]),
   S 90 (.call n_Take [(.t 88), (.t 89)]),
   S 87 (.mv (.t 90)),
   S 91 (.ext (.t 87) 0),
   S 92 (.ext (.t 87) 1),
   S 19 (.new true [(eI 0), (eI 0)]),
   E (.st 2 (.t 19) (.t 91)),
   S 20 (.mv (.t 92))])
 (.seq (.ops [S 94 (.mv (.t 7)),
   S 95 (.ld true 2 (.t 19)),
   S 96 (.call n_Get [(.t 94), (.t 95)]),
   S 93 (.mv (.t 96)),
   S 97 (.ext (.t 93) 0),
   S 98 (.ext (.t 93) 1),
   S 21 (.new true [(eI 0), (eI 0), (eI 0), (eI 0), (eI 0), (eI 0)]),
   E (.st 6 (.t 21) (.t 97)),
   S 22 (.mv (.t 98))])
 (.seq (.ops [S 99 (.mv (.t 5)),
   S 100 (.mv (.t 99)),
   ⟨(some 101), .mv (.t 12), (some (100, true)), []⟩,
   ⟨(some 102), .un .not (.t 101), (some (100, true)), []⟩,
   S 103 (.pick (.t 100) (.t 102) (xB false)),
   S 104 (.mv (.t 103)),
   ⟨(some 105), .mv (.t 15), (some (104, true)), []⟩,
   ⟨(some 106), .un .not (.t 105), (some (104, true)), []⟩,
   S 107 (.pick (.t 104) (.t 106) (xB false)),
   S 108 (.mv (.t 107)),
   ⟨(some 109), .mv (.t 17), (some (108, true)), []⟩,
   ⟨(some 110), .un .not (.t 109), (some (108, true)), []⟩,
   S 111 (.pick (.t 108) (.t 110) (xB false)),
   S 112 (.mv (.t 111)),
   ⟨(some 113), .mv (.t 18), (some (112, true)), []⟩,
   S 114 (.pick (.t 112) (.t 113) (xB false)),
   S 115 (.mv (.t 114)),
   ⟨(some 116), .mv (.t 20), (some (115, true)), []⟩,
   S 117 (.pick (.t 115) (.t 116) (xB false)),
   S 118 (.mv (.t 117)),
   ⟨(some 119), .ld true 2 (.t 19), (some (118, true)), []⟩,
   ⟨(some 120), .mv (.t 13), (some (118, true)), []⟩,
   ⟨(some 121), .build [(eI 0), (eI 0)] [(0, 1, (.t 120)), (1, 1, (xI 1))], (some (118, true)), []⟩,
   ⟨(some 122), .bin .eql (.cells [.int, .int]) (.t 119) (.t 121), (some (118, true)), []⟩,
   S 123 (.pick (.t 118) (.t 122) (xB false)),
   S 124 (.mv (.t 123)),
   ⟨(some 125), .mv (.t 22), (some (124, true)), []⟩,
   S 126 (.pick (.t 124) (.t 125) (xB false)),
   S 127 (.mv (.t 126)),
   ⟨(some 128), .fld 1 (.t 21), (some (127, true)), []⟩,
   ⟨(some 129), .ld false 1 (.t 128), (some (127, true)), []⟩,
   ⟨(some 130), .bin .eql .none (.t 129) (xI 99), (some (127, true)), []⟩,
   S 131 (.pick (.t 127) (.t 130) (xB false)),
   S 4 (.mv (.t 131))])
 (.ret))))))))))))))),
 [.tmp 4], false, true⟩
/- sibyl/sibyllaw11.awake -/
def d_awake : DFn := ⟨0,
 .seq (.ops [S 0 (.mv (xB false))])
 (.seq (.ops [S 11 (.call n_New [(xI 1)]),
   S 1 (.mv (.t 11))])
 (.seq (.ops [S 13 (.mv (.t 1)),
   S 14 (.build [(eI 0), (eI 0), (eI 0), (eI 0), (eI 0), (eI 0)] [(0, 1, (xI 3))]),
   S 15 (.call n_Take [(.t 13), (.t 14)]),
   S 12 (.mv (.t 15)),
   S 16 (.ext (.t 12) 0),
   S 17 (.ext (.t 12) 1),
   S 2 (.new true [(eI 0), (eI 0)]),
   E (.st 2 (.t 2) (.t 16)),
   S 3 (.mv (.t 17))])
 (.seq (.ops [S 19 (.mv (.t 1)),
   S 20 (.build [(eI 0), (eI 0), (eI 0), (eI 0), (eI 0), (eI 0)] []),
   S 21 (.call n_Take [(.t 19), (.t 20)]),
   S 18 (.mv (.t 21)),
   S 22 (.ext (.t 18) 0),
   S 23 (.ext (.t 18) 1),
   S 4 (.new true [(eI 0), (eI 0)]),
   E (.st 2 (.t 4) (.t 22)),
   S 5 (.mv (.t 23))])
 (.seq (.ops [S 25 (.mv (.t 1)),
   S 26 (.ld true 2 (.t 2)),
   S 27 (.call n_Add [(.t 25), (.t 26), (xI (-1))]),
   S 24 (.mv (.t 27)),
   S 28 (.ext (.t 24) 0),
   S 29 (.ext (.t 24) 1),
   S 6 (.mv (.t 28)),
   S 7 (.mv (.t 29))])
 (.seq (.ops [S 30 (.mv (.t 1)),
   S 31 (.ld true 2 (.t 2)),
   S 32 (.call n_Free [(.t 30), (.t 31)]),
   S 8 (.mv (.t 32))])
 (.seq (.ops [S 34 (.mv (.t 1)),
   S 35 (.build [(eI 0), (eI 0), (eI 0), (eI 0), (eI 0), (eI 0)] []),
   S 36 (.call n_Take [(.t 34), (.t 35)]),
   S 33 (.mv (.t 36)),
   S 37 (.ext (.t 33) 0),
   S 38 (.ext (.t 33) 1),
   S 9 (.new true [(eI 0), (eI 0)]),
   E (.st 2 (.t 9) (.t 37)),
   S 10 (.mv (.t 38))])
 (.seq (.ops [S 39 (.ld true 2 (.t 2)),
   S 40 (.build [(eI 0), (eI 0)] []),
   S 41 (.bin .eql (.cells [.int, .int]) (.t 39) (.t 40)),
   S 42 (.mv (.t 41)),
   ⟨(some 43), .mv (.t 3), (some (42, true)), []⟩,
   S 44 (.pick (.t 42) (.t 43) (xB false)),
   S 45 (.mv (.t 44)),
   ⟨(some 46), .mv (.t 5), (some (45, true)), []⟩,
   ⟨(some 47), .un .not (.t 46), (some (45, true)), []⟩,
   S 48 (.pick (.t 45) (.t 47) (xB false)),
   S 49 (.mv (.t 48)),
   ⟨(some 50), .mv (.t 6), (some (49, true)), []⟩,
   ⟨(some 51), .bin .eql .none (.t 50) (xI 0), (some (49, true)), []⟩,
   S 52 (.pick (.t 49) (.t 51) (xB false)),
   S 53 (.mv (.t 52)),
   ⟨(some 54), .mv (.t 7), (some (53, true)), []⟩,
   S 55 (.pick (.t 53) (.t 54) (xB false)),
   S 56 (.mv (.t 55)),
   ⟨(some 57), .mv (.t 8), (some (56, true)), []⟩,
   S 58 (.pick (.t 56) (.t 57) (xB false)),
   S 59 (.mv (.t 58)),
   ⟨(some 60), .ld true 2 (.t 9), (some (59, true)), []⟩,
   ⟨(some 61), .build [(eI 0), (eI 0)] [(1, 1, (xI 1))], (some (59, true)), []⟩,
   ⟨(some 62), .bin .eql (.cells [.int, .int]) (.t 60) (.t 61), (some (59, true)), []⟩,
   S 63 (.pick (.t 59) (.t 62) (xB false)),
   S 64 (.mv (.t 63)),
   ⟨(some 65), .mv (.t 10), (some (64, true)), []⟩,
   S 66 (.pick (.t 64) (.t 65) (xB false)),
   S 0 (.mv (.t 66))])
 (.ret)))))))),
 [.tmp 0], false, true⟩
/- sibyl/sibyllaw11.rest -/
def d_rest : DFn := ⟨2,
 .seq (.ops [S 4 (.mv (xI 0))])
 (.seq (.ops [S 5 (.mv (.t 0)),
   S 6 (.mv (.t 1)),
   S 7 (.bin .rem .none (.t 5) (.t 6)),
   S 8 (.mv (.t 1)),
   S 9 (.bin .add .none (.t 7) (.t 8)),
   S 10 (.mv (.t 1)),
   S 11 (.bin .rem .none (.t 9) (.t 10)),
   S 4 (.mv (.t 11))])
 (.ret)),
 [.tmp 4], false, true⟩
/- sibyl/store.New -/
def d_New : DFn := ⟨1,
 .seq (.ops [S 2 (.mv (.v .nilp))])
 (.seq (.seq (.ops [S 3 (.mv (.t 0)),
   S 4 (.bin .lss .none (.t 3) (xI 1)),
   S 5 (.mv (.t 4)),
   ⟨(some 6), .mv (.t 0), (some (5, false)), []⟩,
   ⟨(some 7), .bin .gtr .none (.t 6) (xI 4096), (some (5, false)), []⟩,
   S 8 (.pick (.t 5) (xB true) (.t 7))])
 (.cond (.t 8)
  (.seq (.ops [S 2 (.mv (.v .nilp))])
  (.ret))
  (.skip)))
 (.seq (.ops [S 9 (.mv (.t 0)),
   S 10 (.mks 9 true 72 [(eI 0), (eB false), (eI 0), (eI 0), (eI 0), (eI 0), (eI 0), (eI 0), (eI 0)] (.t 9) (.t 9)),
   S 11 (.build [(.full []), (eI 0), (eI 0)] [(0, 1, (.t 10))]),
   S 12 (.box true 3 (.t 11)),
   S 2 (.mv (.t 12))])
 (.ret))),
 [.tmp 2], false, false⟩
/- (*sibyl/store.Store).Take -/
def d_Take : DFn := ⟨2,
 .seq (.ops [S 3 (.box true 6 (.t 1)),
   S 4 (.new true [(eI 0), (eI 0)]),
   S 5 (.mv (xB false))])
 (.seq (.seq (.ops [S 8 (.mv (.t 0)),
   S 9 (.bin .eql .ptr (.t 8) (.v .nilp))])
 (.cond (.t 9)
  (.seq (.ops [S 10 (.build [(eI 0), (eI 0)] []),
    E (.st 2 (.t 4) (.t 10)),
    S 5 (.mv (xB false))])
  (.ret))
  (.skip)))
 (.seq (.ops [S 6 (.mv (xI 0))])
 (.seq (.skip)
 (.seq (.block 0 (.loop [0, 3, 4, 6] (.seq (.seq (.ops [S 11 (.mv (.t 6)),
     S 12 (.mv (.t 0)),
     S 13 (.nz (.t 12)),
     S 14 (.fld 0 (.t 13)),
     S 15 (.ld false 1 (.t 14)),
     S 16 (.len 0 (.t 15)),
     S 17 (.bin .lss .none (.t 11) (.t 16))])
   (.cond (.t 17)
    (.skip)
    (.exit 0)))
   (.block 1 (.seq (.seq (.ops [S 18 (.mv (.t 0)),
      S 19 (.nz (.t 18)),
      S 20 (.fld 0 (.t 19)),
      S 21 (.ld false 1 (.t 20)),
      S 22 (.mv (.t 6)),
      S 23 (.ixa 9 (.t 21) (.t 22)),
      S 24 (.fld 1 (.t 23)),
      S 25 (.ld false 1 (.t 24)),
      S 26 (.un .not (.t 25))])
    (.cond (.t 26)
     (.exit 0)
     (.skip)))
    (.ops [S 27 (.mv (.t 6)),
      S 28 (.bin .add .none (.t 27) (xI 1)),
      S 6 (.mv (.t 28))]))))))
 (.seq (.seq (.ops [S 29 (.mv (.t 6)),
   S 30 (.mv (.t 0)),
   S 31 (.nz (.t 30)),
   S 32 (.fld 0 (.t 31)),
   S 33 (.ld false 1 (.t 32)),
   S 34 (.len 0 (.t 33)),
   S 35 (.bin .eql .none (.t 29) (.t 34))])
 (.cond (.t 35)
  (.seq (.ops [S 36 (.build [(eI 0), (eI 0)] []),
    E (.st 2 (.t 4) (.t 36)),
    S 5 (.mv (xB false))])
  (.ret))
  (.skip)))
 (.seq (.ops [S 37 (.mv (.t 0)),
   S 38 (.nz (.t 37)),
   S 39 (.fld 0 (.t 38)),
   S 40 (.ld false 1 (.t 39)),
   S 41 (.mv (.t 6)),
   S 42 (.ixa 9 (.t 40) (.t 41)),
   S 7 (.mv (.t 42))])
 (.seq (.ops [S 43 (.mv (.t 7)),
   S 44 (.mv (.t 7)),
   S 45 (.mv (.t 7)),
   S 46 (.ld true 6 (.t 3)),
   S 47 (.nz (.t 43)),
   S 48 (.fld 1 (.t 47)),
   ⟨none, .st 1 (.t 48) (xB true), none, [(46, .ld true 6 (.t 3), none)]⟩,
   S 49 (.nz (.t 44)),
   S 50 (.fld 2 (.t 49)),
   E (.st 6 (.t 50) (.t 46)),
   S 51 (.nz (.t 45)),
   S 52 (.fld 8 (.t 51)),
   E (.st 1 (.t 52) (xI 1))])
 (.seq (.ops [S 53 (.mv (.t 0)),
   S 54 (.nz (.t 53)),
   S 55 (.fld 1 (.t 54)),
   S 56 (.ld false 1 (.t 55)),
   S 57 (.bin .add .none (.t 56) (xI 1)),
   S 58 (.nz (.t 53)),
   S 59 (.fld 1 (.t 58)),
   E (.st 1 (.t 59) (.t 57))])
 (.seq (.ops [S 60 (.mv (.t 0)),
   S 61 (.nz (.t 60)),
   S 62 (.fld 2 (.t 61)),
   S 63 (.ld false 1 (.t 62)),
   S 64 (.bin .add .none (.t 63) (xI 1)),
   S 65 (.nz (.t 60)),
   S 66 (.fld 2 (.t 65)),
   E (.st 1 (.t 66) (.t 64))])
 (.seq (.ops [S 67 (.mv (.t 6)),
   S 68 (.mv (.t 7)),
   S 69 (.nz (.t 68)),
   S 70 (.fld 0 (.t 69)),
   S 71 (.ld false 1 (.t 70)),
   S 72 (.build [(eI 0), (eI 0)] [(0, 1, (.t 67)), (1, 1, (.t 71))]),
   E (.st 2 (.t 4) (.t 72)),
   S 5 (.mv (xB true))])
 (.ret))))))))))),
 [.cell 4 true 2, .tmp 5], false, false⟩
/- (*sibyl/store.Store).Used -/
def d_Used : DFn := ⟨1,
 .seq (.ops [S 2 (.mv (xI 0))])
 (.seq (.seq (.ops [S 3 (.mv (.t 0)),
   S 4 (.bin .eql .ptr (.t 3) (.v .nilp))])
 (.cond (.t 4)
  (.seq (.ops [S 2 (.mv (xI 0))])
  (.ret))
  (.skip)))
 (.seq (.ops [S 5 (.mv (.t 0)),
   S 6 (.nz (.t 5)),
   S 7 (.fld 1 (.t 6)),
   S 8 (.ld false 1 (.t 7)),
   S 2 (.mv (.t 8))])
 (.ret))),
 [.tmp 2], false, true⟩
/- (*sibyl/store.Store).Free -/
def d_Free : DFn := ⟨2,
 .seq (.ops [S 2 (.box false 1 (.t 0)),
   S 3 (.box true 2 (.t 1)),
   S 4 (.mv (xB false))])
 (.seq (.ops [S 5 (.ld false 1 (.t 2)),
   S 6 (.ld true 2 (.t 3)),
   S 7 (.mkf (.func n_Free1) [] [(.t 2)]),
   S 8 (.call n_with [(.t 5), (.t 6), (.t 7)]),
   S 4 (.mv (.t 8))])
 (.ret)),
 [.tmp 4], false, false⟩
/- (*sibyl/store.Store).Add -/
def d_Add : DFn := ⟨3,
 .seq (.ops [S 3 (.box false 1 (.t 0)),
   S 4 (.box true 2 (.t 1)),
   S 5 (.box false 1 (.t 2)),
   S 6 (.mv (xI 0)),
   S 7 (.mv (xB false))])
 (.seq (.ops [S 8 (.new false [(eI 0)]),
   E (.st 1 (.t 8) (xI 0))])
 (.seq (.ops [S 10 (.ld false 1 (.t 3)),
   S 11 (.ld true 2 (.t 4)),
   S 12 (.mkf (.func n_Add1) [] [(.t 5), (.t 8), (.t 3)]),
   S 13 (.call n_with [(.t 10), (.t 11), (.t 12)]),
   S 9 (.mv (.t 13))])
 (.seq (.ops [S 14 (.ld false 1 (.t 8)),
   S 15 (.mv (.t 9)),
   S 6 (.mv (.t 14)),
   S 7 (.mv (.t 15))])
 (.ret)))),
 [.tmp 6, .tmp 7], false, false⟩
/- (*sibyl/store.Store).Get -/
def d_Get : DFn := ⟨2,
 .seq (.ops [S 3 (.box true 2 (.t 1)),
   S 4 (.new true [(eI 0), (eI 0), (eI 0), (eI 0), (eI 0), (eI 0)]),
   S 5 (.mv (xB false))])
 (.seq (.ops [S 6 (.mv (.t 0)),
   S 7 (.ld true 2 (.t 3)),
   S 8 (.mkf (.func n_Get1) [] [(.t 4)]),
   S 9 (.call n_with [(.t 6), (.t 7), (.t 8)]),
   S 5 (.mv (.t 9))])
 (.seq (.ops [S 10 (.ld true 6 (.t 4)),
   S 11 (.mv (.t 5)),
   E (.st 6 (.t 4) (.t 10)),
   S 5 (.mv (.t 11))])
 (.ret))),
 [.cell 4 true 6, .tmp 5], false, true⟩
/- (*sibyl/store.Store).Count -/
def d_Count : DFn := ⟨2,
 .seq (.ops [S 3 (.box true 2 (.t 1)),
   S 4 (.mv (xI 0))])
 (.seq (.ops [S 5 (.new false [(eI 0)]),
   E (.st 1 (.t 5) (xI 0))])
 (.seq (.ops [S 6 (.mv (.t 0)),
   S 7 (.ld true 2 (.t 3)),
   S 8 (.mkf (.func n_Count1) [] [(.t 5)]),
   S 9 (.call n_with [(.t 6), (.t 7), (.t 8)])])
 (.seq (.ops [S 10 (.ld false 1 (.t 5)),
   S 4 (.mv (.t 10))])
 (.ret)))),
 [.tmp 4], false, true⟩
/- (*sibyl/store.Store).Live -/
def d_Live : DFn := ⟨1,
 .seq (.ops [S 2 (.mv (xI 0))])
 (.seq (.seq (.ops [S 3 (.mv (.t 0)),
   S 4 (.bin .eql .ptr (.t 3) (.v .nilp))])
 (.cond (.t 4)
  (.seq (.ops [S 2 (.mv (xI 0))])
  (.ret))
  (.skip)))
 (.seq (.ops [S 5 (.mv (.t 0)),
   S 6 (.nz (.t 5)),
   S 7 (.fld 2 (.t 6)),
   S 8 (.ld false 1 (.t 7)),
   S 2 (.mv (.t 8))])
 (.ret))),
 [.tmp 2], false, true⟩
/- (*sibyl/store.Store).with -/
def d_with : DFn := ⟨3,
 .seq (.ops [S 4 (.box true 2 (.t 1)),
   S 6 (.mv (xB false))])
 (.seq (.seq (.ops [S 8 (.mv (.t 0)),
   S 9 (.bin .eql .ptr (.t 8) (.v .nilp)),
   S 10 (.mv (.t 9)),
   ⟨(some 11), .fld 0 (.t 4), (some (10, false)), []⟩,
   ⟨(some 12), .ld false 1 (.t 11), (some (10, false)), []⟩,
   ⟨(some 13), .bin .lss .none (.t 12) (xI 0), (some (10, false)), []⟩,
   S 14 (.pick (.t 10) (xB true) (.t 13)),
   S 15 (.mv (.t 14)),
   ⟨(some 16), .fld 0 (.t 4), (some (15, false)), []⟩,
   ⟨(some 17), .ld false 1 (.t 16), (some (15, false)), []⟩,
   ⟨(some 18), .mv (.t 0), (some (15, false)), []⟩,
   ⟨(some 19), .nz (.t 18), (some (15, false)), []⟩,
   ⟨(some 20), .fld 0 (.t 19), (some (15, false)), []⟩,
   ⟨(some 21), .ld false 1 (.t 20), (some (15, false)), []⟩,
   ⟨(some 22), .len 0 (.t 21), (some (15, false)), []⟩,
   ⟨(some 23), .bin .geq .none (.t 17) (.t 22), (some (15, false)), []⟩,
   S 24 (.pick (.t 15) (xB true) (.t 23))])
 (.cond (.t 24)
  (.seq (.ops [S 6 (.mv (xB false))])
  (.ret))
  (.skip)))
 (.seq (.ops [S 25 (.mv (.t 0)),
   S 26 (.nz (.t 25)),
   S 27 (.fld 0 (.t 26)),
   S 28 (.ld false 1 (.t 27)),
   S 29 (.fld 0 (.t 4)),
   S 30 (.ld false 1 (.t 29)),
   S 31 (.ixa 9 (.t 28) (.t 30)),
   S 7 (.mv (.t 31))])
 (.seq (.ops [S 32 (.mv (.t 7)),
   S 33 (.nz (.t 32)),
   S 34 (.fld 1 (.t 33)),
   S 35 (.ld false 1 (.t 34)),
   S 36 (.mv (.t 35)),
   ⟨(some 37), .mv (.t 7), (some (36, true)), []⟩,
   ⟨(some 38), .nz (.t 37), (some (36, true)), []⟩,
   ⟨(some 39), .fld 0 (.t 38), (some (36, true)), []⟩,
   ⟨(some 40), .ld false 1 (.t 39), (some (36, true)), []⟩,
   ⟨(some 41), .fld 1 (.t 4), (some (36, true)), []⟩,
   ⟨(some 42), .ld false 1 (.t 41), (some (36, true)), []⟩,
   ⟨(some 43), .bin .eql .none (.t 40) (.t 42), (some (36, true)), []⟩,
   S 44 (.pick (.t 36) (.t 43) (xB false)),
   S 45 (.mv (.t 44)),
   ⟨(some 46), .mv (.t 2), (some (45, true)), []⟩,
   ⟨(some 47), .mv (.t 7), (some (45, true)), []⟩,
   ⟨(some 48), .callv (.t 46) [(.t 47)], (some (45, true)), []⟩,
   S 49 (.pick (.t 45) (.t 48) (xB false)),
   S 6 (.mv (.t 49))])
 (.ret)))),
 [.tmp 6], false, false⟩
/- (*sibyl/store.Store).Free$1 -/
def d_Free1 : DFn := ⟨2,
 .seq (.ops [S 3 (.mv (xB false))])
 (.seq (.seq (.ops [S 4 (.mv (.t 0)),
   S 5 (.nz (.t 4)),
   S 6 (.fld 8 (.t 5)),
   S 7 (.ld false 1 (.t 6)),
   S 8 (.bin .gtr .none (.t 7) (xI 0))])
 (.cond (.t 8)
  (.seq (.ops [S 3 (.mv (xB false))])
  (.ret))
  (.skip)))
 (.seq (.ops [S 9 (.mv (.t 0)),
   S 10 (.mv (.t 0)),
   S 11 (.nz (.t 10)),
   S 12 (.fld 0 (.t 11)),
   S 13 (.ld false 1 (.t 12)),
   S 14 (.bin .add .none (.t 13) (xI 1)),
   S 15 (.build [(eI 0), (eB false), (eI 0), (eI 0), (eI 0), (eI 0), (eI 0), (eI 0), (eI 0)] [(0, 1, (.t 14))]),
   S 16 (.nz (.t 9)),
   E (.st 9 (.t 16) (.t 15))])
 (.seq (.ops [S 17 (.ld false 1 (.t 1)),
   S 18 (.nz (.t 17)),
   S 19 (.fld 1 (.t 18)),
   S 20 (.ld false 1 (.t 19)),
   S 21 (.bin .sub .none (.t 20) (xI 1)),
   S 22 (.nz (.t 17)),
   S 23 (.fld 1 (.t 22)),
   E (.st 1 (.t 23) (.t 21))])
 (.seq (.ops [S 3 (.mv (xB true))])
 (.ret))))),
 [.tmp 3], false, false⟩
/- (*sibyl/store.Store).Add$1 -/
def d_Add1 : DFn := ⟨4,
 .seq (.ops [S 5 (.mv (xB false))])
 (.seq (.seq (.ops [S 6 (.mv (.t 0)),
   S 7 (.nz (.t 6)),
   S 8 (.fld 8 (.t 7)),
   S 9 (.ld false 1 (.t 8)),
   S 10 (.bin .eql .none (.t 9) (xI 0)),
   S 11 (.mv (.t 10)),
   ⟨(some 12), .ld false 1 (.t 1), (some (11, false)), []⟩,
   ⟨(some 13), .mv (.t 0), (some (11, false)), []⟩,
   ⟨(some 14), .nz (.t 13), (some (11, false)), []⟩,
   ⟨(some 15), .fld 8 (.t 14), (some (11, false)), []⟩,
   ⟨(some 16), .ld false 1 (.t 15), (some (11, false)), []⟩,
   ⟨(some 17), .un .neg (.t 16), (some (11, false)), []⟩,
   ⟨(some 18), .bin .lss .none (.t 12) (.t 17), (some (11, false)), []⟩,
   S 19 (.pick (.t 11) (xB true) (.t 18)),
   S 20 (.mv (.t 19)),
   ⟨(some 21), .ld false 1 (.t 1), (some (20, false)), []⟩,
   ⟨(some 22), .mv (.t 0), (some (20, false)), []⟩,
   ⟨(some 23), .nz (.t 22), (some (20, false)), []⟩,
   ⟨(some 24), .fld 8 (.t 23), (some (20, false)), []⟩,
   ⟨(some 25), .ld false 1 (.t 24), (some (20, false)), []⟩,
   ⟨(some 26), .bin .sub .none (xI 1099511627776) (.t 25), (some (20, false)), []⟩,
   ⟨(some 27), .bin .gtr .none (.t 21) (.t 26), (some (20, false)), []⟩,
   S 28 (.pick (.t 20) (xB true) (.t 27))])
 (.cond (.t 28)
  (.seq (.ops [S 5 (.mv (xB false))])
  (.ret))
  (.skip)))
 (.seq (.ops [S 29 (.mv (.t 0)),
   S 30 (.nz (.t 29)),
   S 31 (.fld 8 (.t 30)),
   S 32 (.ld false 1 (.t 31)),
   S 33 (.ld false 1 (.t 1)),
   S 34 (.bin .add .none (.t 32) (.t 33)),
   S 35 (.nz (.t 29)),
   S 36 (.fld 8 (.t 35)),
   E (.st 1 (.t 36) (.t 34))])
 (.seq (.ops [S 37 (.mv (.t 0)),
   S 38 (.nz (.t 37)),
   S 39 (.fld 8 (.t 38)),
   S 40 (.ld false 1 (.t 39)),
   E (.st 1 (.t 2) (.t 40))])
 (.seq (.seq (.ops [S 41 (.ld false 1 (.t 2)),
   S 42 (.bin .eql .none (.t 41) (xI 0))])
 (.cond (.t 42)
  (.ops [S 43 (.ld false 1 (.t 3)),
    S 44 (.nz (.t 43)),
    S 45 (.fld 2 (.t 44)),
    S 46 (.ld false 1 (.t 45)),
    S 47 (.bin .sub .none (.t 46) (xI 1)),
    S 48 (.nz (.t 43)),
    S 49 (.fld 2 (.t 48)),
    E (.st 1 (.t 49) (.t 47))])
  (.skip)))
 (.seq (.ops [S 5 (.mv (xB true))])
 (.ret)))))),
 [.tmp 5], false, false⟩
/- (*sibyl/store.Store).Get$1 -/
def d_Get1 : DFn := ⟨2,
 .seq (.ops [S 3 (.mv (xB false))])
 (.seq (.ops [S 4 (.mv (.t 0)),
   S 5 (.nz (.t 4)),
   S 6 (.fld 2 (.t 5)),
   S 7 (.ld true 6 (.t 6)),
   E (.st 6 (.t 1) (.t 7))])
 (.seq (.ops [S 3 (.mv (xB true))])
 (.ret))),
 [.tmp 3], false, false⟩
/- (*sibyl/store.Store).Count$1 -/
def d_Count1 : DFn := ⟨2,
 .seq (.ops [S 3 (.mv (xB false))])
 (.seq (.ops [S 4 (.mv (.t 0)),
   S 5 (.nz (.t 4)),
   S 6 (.fld 8 (.t 5)),
   S 7 (.ld false 1 (.t 6)),
   E (.st 1 (.t 1) (.t 7))])
 (.seq (.ops [S 3 (.mv (xB true))])
 (.ret))),
 [.tmp 3], false, false⟩

def progList : List (Nat × DFn) := [(n_StoreFull, d_StoreFull), (n_awake, d_awake), (n_rest, d_rest), (n_New, d_New), (n_Take, d_Take), (n_Used, d_Used), (n_Free, d_Free), (n_Add, d_Add), (n_Get, d_Get), (n_Count, d_Count), (n_Live, d_Live), (n_with, d_with), (n_Free1, d_Free1), (n_Add1, d_Add1), (n_Get1, d_Get1), (n_Count1, d_Count1)]
end Dk.A
