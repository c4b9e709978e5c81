/- D's code of the functions, printed by a program of mine (DPrint). -/
import Derived.Test.YtcbigcpdbidlaaaDk4
set_option linter.unusedVariables false
set_option linter.unusedSimpArgs false
namespace Dk.A
open Go Dk
abbrev n_StoreFull : Nat := 3
abbrev n_StoreOwn : Nat := 4
abbrev n_StoreTurns : Nat := 5
abbrev n_StoreCounts : Nat := 6
abbrev n_StorePlays : Nat := 7
abbrev n_StoreNil : Nat := 8
abbrev n_awake : Nat := 15
abbrev n_rest : Nat := 16
abbrev n_New : Nat := 17
abbrev n_Take : Nat := 18
abbrev n_Used : Nat := 19
abbrev n_Free : Nat := 20
abbrev n_Add : Nat := 21
abbrev n_Get : Nat := 22
abbrev n_Count : Nat := 23
abbrev n_Live : Nat := 24
abbrev n_rTake : Nat := 25
abbrev n_rFree : Nat := 26
abbrev n_rAdd : Nat := 27
abbrev n_rGet : Nat := 28
abbrev n_rCount : Nat := 29
abbrev n_rUsed : Nat := 30
abbrev n_with : Nat := 47
abbrev n_Free1 : Nat := 48
abbrev n_Add1 : Nat := 49
abbrev n_Get1 : Nat := 50
abbrev n_Count1 : Nat := 51
abbrev n_rfind : Nat := 52
/- sibyl/sibyllaw11.StoreFull -/
def d_StoreFull : DFn := ⟨2,
 .seq (.ops [S 4 (.mv (xB false))])
 (.seq (.ops [S 23 (.call n_awake []),
   S 5 (.mv (.t 23))])
 (.seq (.ops [S 24 (.mv (.t 0)),
   S 25 (.call n_rest [(.t 24), (xI 40)]),
   S 26 (.bin .add .none (xI 1) (.t 25)),
   S 6 (.mv (.t 26))])
 (.seq (.ops [S 27 (.mv (.t 6)),
   S 28 (.call n_New [(.t 27)]),
   S 7 (.mv (.t 28))])
 (.seq (.seq (.ops [S 8 (.mv (xI 0))])
 (.block 0 (.loop [1, 5, 6, 7, 8] (.seq (.seq (.ops [S 29 (.mv (.t 8)),
     S 30 (.mv (.t 6)),
     S 31 (.bin .lss .none (.t 29) (.t 30))])
   (.cond (.t 31)
    (.skip)
    (.exit 0)))
   (.seq (.block 1 (.seq (.ops [S 35 (.mv (.t 7)),
      S 36 (.mv (.t 8)),
      S 37 (.build [(eI 0), (eI 0), (eI 0), (eI 0), (eI 0), (eI 0)] [(1, 1, (.t 36))]),
      S 38 (.call n_Take [(.t 35), (.t 37)]),
      S 34 (.mv (.t 38)),
      S 39 (.ext (.t 34) 0),
      S 40 (.ext (.t 34) 1),
      S 9 (.new true [(eI 0), (eI 0)]),
      E (.st 2 (.t 9) (.t 39)),
      S 10 (.mv (.t 40))])
    (.seq (.ops [S 41 (.mv (.t 10)),
      S 42 (.un .not (.t 41)),
      S 43 (.mv (.t 42)),
      ⟨(some 44), .fld 0 (.t 9), (some (43, false)), []⟩,
      ⟨(some 45), .ld false 1 (.t 44), (some (43, false)), []⟩,
      ⟨(some 46), .mv (.t 8), (some (43, false)), []⟩,
      ⟨(some 47), .bin .neq .none (.t 45) (.t 46), (some (43, false)), []⟩,
      S 48 (.pick (.t 43) (xB true) (.t 47)),
      S 49 (.mv (.t 48)),
      ⟨(some 50), .fld 1 (.t 9), (some (49, false)), []⟩,
      ⟨(some 51), .ld false 1 (.t 50), (some (49, false)), []⟩,
      ⟨(some 52), .bin .neq .none (.t 51) (xI 0), (some (49, false)), []⟩,
      S 53 (.pick (.t 49) (xB true) (.t 52)),
      S 54 (.mv (.t 53)),
      ⟨(some 55), .mv (.t 7), (some (54, false)), []⟩,
      ⟨(some 56), .call n_Used [(.t 55)], (some (54, false)), []⟩,
      ⟨(some 57), .mv (.t 8), (some (54, false)), []⟩,
      ⟨(some 58), .bin .add .none (.t 57) (xI 1), (some (54, false)), []⟩,
      ⟨(some 59), .bin .neq .none (.t 56) (.t 58), (some (54, false)), []⟩,
      S 60 (.pick (.t 54) (xB true) (.t 59))])
    (.cond (.t 60)
     (.seq (.ops [S 4 (.mv (xB false))])
     (.ret))
     (.skip)))))
   (.ops [S 32 (.mv (.t 8)),
     S 33 (.bin .add .none (.t 32) (xI 1)),
     S 8 (.mv (.t 33))]))))))
 (.seq (.ops [S 62 (.mv (.t 7)),
   S 63 (.build [(eI 0), (eI 0), (eI 0), (eI 0), (eI 0), (eI 0)] []),
   S 64 (.call n_Take [(.t 62), (.t 63)]),
   S 61 (.mv (.t 64)),
   S 65 (.ext (.t 61) 0),
   S 66 (.ext (.t 61) 1),
   S 11 (.new true [(eI 0), (eI 0)]),
   E (.st 2 (.t 11) (.t 65)),
   S 12 (.mv (.t 66))])
 (.seq (.ops [S 67 (.mv (.t 1)),
   S 68 (.mv (.t 6)),
   S 69 (.call n_rest [(.t 67), (.t 68)]),
   S 13 (.mv (.t 69))])
 (.seq (.ops [S 70 (.mv (.t 13)),
   S 71 (.build [(eI 0), (eI 0)] [(0, 1, (.t 70))]),
   S 14 (.new true [(eI 0), (eI 0)]),
   E (.st 2 (.t 14) (.t 71))])
 (.seq (.ops [S 72 (.mv (.t 7)),
   S 73 (.ld true 2 (.t 14)),
   S 74 (.call n_Free [(.t 72), (.t 73)]),
   S 15 (.mv (.t 74))])
 (.seq (.ops [S 75 (.mv (.t 7)),
   S 76 (.ld true 2 (.t 14)),
   S 77 (.call n_Add [(.t 75), (.t 76), (xI (-1))])])
 (.seq (.ops [S 79 (.mv (.t 7)),
   S 80 (.build [(eI 0), (eI 0), (eI 0), (eI 0), (eI 0), (eI 0)] []),
   S 81 (.call n_Take [(.t 79), (.t 80)]),
   S 78 (.mv (.t 81)),
   S 82 (.ext (.t 78) 0),
   S 83 (.ext (.t 78) 1),
   S 16 (.new true [(eI 0), (eI 0)]),
   E (.st 2 (.t 16) (.t 82)),
   S 17 (.mv (.t 83))])
 (.seq (.ops [S 84 (.mv (.t 7)),
   S 85 (.ld true 2 (.t 14)),
   S 86 (.call n_Free [(.t 84), (.t 85)]),
   S 18 (.mv (.t 86))])
 (.seq (.ops [S 88 (.mv (.t 7)),
   S 89 (.build [(eI 0), (eI 0), (eI 0), (eI 0), (eI 0), (eI 0)] [(1, 1, (xI 99))]),
   S 90 (.call n_Take [(.t 88), (.t 89)]),
   S 87 (.mv (.t 90)),
   S 91 (.ext (.t 87) 0),
   S 92 (.ext (.t 87) 1),
   S 19 (.new true [(eI 0), (eI 0)]),
   E (.st 2 (.t 19) (.t 91)),
   S 20 (.mv (.t 92))])
 (.seq (.ops [S 94 (.mv (.t 7)),
   S 95 (.ld true 2 (.t 19)),
   S 96 (.call n_Get [(.t 94), (.t 95)]),
   S 93 (.mv (.t 96)),
   S 97 (.ext (.t 93) 0),
   S 98 (.ext (.t 93) 1),
   S 21 (.new true [(eI 0), (eI 0), (eI 0), (eI 0), (eI 0), (eI 0)]),
   E (.st 6 (.t 21) (.t 97)),
   S 22 (.mv (.t 98))])
 (.seq (.ops [S 99 (.mv (.t 5)),
   S 100 (.mv (.t 99)),
   ⟨(some 101), .mv (.t 12), (some (100, true)), []⟩,
   ⟨(some 102), .un .not (.t 101), (some (100, true)), []⟩,
   S 103 (.pick (.t 100) (.t 102) (xB false)),
   S 104 (.mv (.t 103)),
   ⟨(some 105), .mv (.t 15), (some (104, true)), []⟩,
   ⟨(some 106), .un .not (.t 105), (some (104, true)), []⟩,
   S 107 (.pick (.t 104) (.t 106) (xB false)),
   S 108 (.mv (.t 107)),
   ⟨(some 109), .mv (.t 17), (some (108, true)), []⟩,
   ⟨(some 110), .un .not (.t 109), (some (108, true)), []⟩,
   S 111 (.pick (.t 108) (.t 110) (xB false)),
   S 112 (.mv (.t 111)),
   ⟨(some 113), .mv (.t 18), (some (112, true)), []⟩,
   S 114 (.pick (.t 112) (.t 113) (xB false)),
   S 115 (.mv (.t 114)),
   ⟨(some 116), .mv (.t 20), (some (115, true)), []⟩,
   S 117 (.pick (.t 115) (.t 116) (xB false)),
   S 118 (.mv (.t 117)),
   ⟨(some 119), .ld true 2 (.t 19), (some (118, true)), []⟩,
   ⟨(some 120), .mv (.t 13), (some (118, true)), []⟩,
   ⟨(some 121), .build [(eI 0), (eI 0)] [(0, 1, (.t 120)), (1, 1, (xI 1))], (some (118, true)), []⟩,
   ⟨(some 122), .bin .eql (.cells [.int, .int]) (.t 119) (.t 121), (some (118, true)), []⟩,
   S 123 (.pick (.t 118) (.t 122) (xB false)),
   S 124 (.mv (.t 123)),
   ⟨(some 125), .mv (.t 22), (some (124, true)), []⟩,
   S 126 (.pick (.t 124) (.t 125) (xB false)),
   S 127 (.mv (.t 126)),
   ⟨(some 128), .fld 1 (.t 21), (some (127, true)), []⟩,
   ⟨(some 129), .ld false 1 (.t 128), (some (127, true)), []⟩,
   ⟨(some 130), .bin .eql .none (.t 129) (xI 99), (some (127, true)), []⟩,
   S 131 (.pick (.t 127) (.t 130) (xB false)),
   S 4 (.mv (.t 131))])
 (.ret))))))))))))))),
 [.tmp 4], false, true⟩
/- sibyl/sibyllaw11.StoreOwn -/
def d_StoreOwn : DFn := ⟨2,
 .seq (.ops [S 4 (.mv (xB false))])
 (.seq (.ops [S 20 (.call n_awake []),
   S 5 (.mv (.t 20))])
 (.seq (.ops [S 21 (.mv (.t 0)),
   S 22 (.call n_rest [(.t 21), (xI 6)]),
   S 23 (.bin .add .none (xI 1) (.t 22)),
   S 6 (.mv (.t 23))])
 (.seq (.ops [S 24 (.mv (.t 6)),
   S 25 (.call n_New [(.t 24)]),
   S 7 (.mv (.t 25))])
 (.seq (.ops [S 8 (.nils 2 true)])
 (.seq (.ops [S 9 (.nils 1 false)])
 (.seq (.seq (.ops [S 10 (.mv (xI 0))])
 (.block 0 (.loop [1, 5, 7, 8, 9, 10] (.seq (.seq (.ops [S 26 (.mv (.t 10)),
     S 27 (.mv (.t 1)),
     S 28 (.len 0 (.t 27)),
     S 29 (.bin .lss .none (.t 26) (.t 28)),
     S 30 (.mv (.t 29)),
     ⟨(some 31), .mv (.t 10), (some (30, true)), []⟩,
     ⟨(some 32), .bin .lss .none (.t 31) (xI 60), (some (30, true)), []⟩,
     S 33 (.pick (.t 30) (.t 32) (xB false))])
   (.cond (.t 33)
    (.skip)
    (.exit 0)))
   (.seq (.block 1 (.seq (.ops [S 36 (.mv (.t 1)),
      S 37 (.mv (.t 10)),
      S 38 (.ixa 3 (.t 36) (.t 37)),
      S 39 (.ld true 3 (.t 38)),
      S 11 (.new true [(eI 0), (eI 0), (eI 0)]),
      E (.st 3 (.t 11) (.t 39))])
    (.seq (.ops [S 40 (.fld 0 (.t 11)),
      S 41 (.ld false 1 (.t 40)),
      S 42 (.call n_rest [(.t 41), (xI 6)]),
      S 12 (.mv (.t 42))])
    (.seq (.seq (.ops [S 43 (.mv (.t 12)),
      S 44 (.bin .lss .none (.t 43) (xI 2))])
    (.cond (.t 44)
     (.seq (.ops [S 46 (.mv (.t 7)),
       S 47 (.mv (.t 8)),
       S 48 (.len 0 (.t 47)),
       S 49 (.build [(eI 0), (eI 0), (eI 0), (eI 0), (eI 0), (eI 0)] [(1, 1, (.t 48))]),
       S 50 (.call n_Take [(.t 46), (.t 49)]),
       S 45 (.mv (.t 50)),
       S 51 (.ext (.t 45) 0),
       S 52 (.ext (.t 45) 1),
       S 13 (.new true [(eI 0), (eI 0)]),
       E (.st 2 (.t 13) (.t 51)),
       S 14 (.mv (.t 52))])
     (.seq (.ops [S 53 (.mv (.t 14))])
     (.cond (.t 53)
      (.seq (.ops [S 54 (.mv (.t 8)),
        S 55 (.ld true 2 (.t 13)),
        S 56 (.lit 2 true [[(eI 0), (eI 0)]] [(0, (.t 55))]),
        S 57 (.app 2 true 16 (.t 54) (.t 56)),
        S 8 (.mv (.t 57))])
      (.ops [S 58 (.mv (.t 9)),
        S 59 (.lit 1 false [[(eB false)]] [(0, (xB false))]),
        S 60 (.app 1 false 1 (.t 58) (.t 59)),
        S 9 (.mv (.t 60))]))
      (.skip))))
     (.seq (.ops [S 61 (.mv (.t 8)),
       S 62 (.len 0 (.t 61)),
       S 63 (.bin .gtr .none (.t 62) (xI 0))])
     (.cond (.t 63)
      (.seq (.ops [S 64 (.fld 1 (.t 11)),
        S 65 (.ld false 1 (.t 64)),
        S 66 (.mv (.t 8)),
        S 67 (.len 0 (.t 66)),
        S 68 (.call n_rest [(.t 65), (.t 67)]),
        S 15 (.mv (.t 68))])
      (.seq (.ops [S 69 (.mv (.t 12)),
        S 70 (.bin .eql .none (.t 69) (xI 4))])
      (.cond (.t 70)
       (.seq (.ops [S 71 (.mv (.t 7)),
         S 72 (.mv (.t 8)),
         S 73 (.mv (.t 15)),
         S 74 (.ixa 2 (.t 72) (.t 73)),
         S 75 (.ld true 2 (.t 74)),
         S 76 (.call n_Free [(.t 71), (.t 75)]),
         S 16 (.mv (.t 76))])
       (.ops [S 77 (.mv (.t 9)),
         S 78 (.mv (.t 15)),
         S 79 (.mv (.t 9)),
         S 80 (.mv (.t 15)),
         S 81 (.ixa 1 (.t 79) (.t 80)),
         S 82 (.ld false 1 (.t 81)),
         S 83 (.mv (.t 82)),
         ⟨(some 84), .mv (.t 16), (some (83, false)), []⟩,
         S 85 (.pick (.t 83) (xB true) (.t 84)),
         S 86 (.ixa 1 (.t 77) (.t 78)),
         E (.st 1 (.t 86) (.t 85))]))
       (.ops [S 87 (.mv (.t 7)),
         S 88 (.mv (.t 8)),
         S 89 (.mv (.t 15)),
         S 90 (.ixa 2 (.t 88) (.t 89)),
         S 91 (.ld true 2 (.t 90)),
         S 92 (.fld 2 (.t 11)),
         S 93 (.ld false 1 (.t 92)),
         ⟨(some 94), .call n_rest [(.t 93), (xI 4)], none, [(91, .ld true 2 (.t 90), none)]⟩,
         S 95 (.bin .sub .none (.t 94) (xI 2)),
         S 96 (.call n_Add [(.t 87), (.t 91), (.t 95)])]))))
      (.skip)))))
    (.seq (.ops [S 17 (.mv (xI 0))])
    (.block 2 (.loop [1, 5, 7, 8, 9, 10, 17] (.seq (.seq (.ops [S 97 (.mv (.t 17)),
        S 98 (.mv (.t 8)),
        S 99 (.len 0 (.t 98)),
        S 100 (.bin .lss .none (.t 97) (.t 99))])
      (.cond (.t 100)
       (.skip)
       (.exit 2)))
      (.seq (.block 3 (.seq (.ops [S 104 (.mv (.t 7)),
         S 105 (.mv (.t 8)),
         S 106 (.mv (.t 17)),
         S 107 (.ixa 2 (.t 105) (.t 106)),
         S 108 (.ld true 2 (.t 107)),
         S 109 (.call n_Get [(.t 104), (.t 108)]),
         S 103 (.mv (.t 109)),
         S 110 (.ext (.t 103) 0),
         S 111 (.ext (.t 103) 1),
         S 18 (.new true [(eI 0), (eI 0), (eI 0), (eI 0), (eI 0), (eI 0)]),
         E (.st 6 (.t 18) (.t 110)),
         S 19 (.mv (.t 111))])
       (.seq (.ops [S 112 (.mv (.t 19)),
         S 113 (.mv (.t 9)),
         S 114 (.mv (.t 17)),
         S 115 (.ixa 1 (.t 113) (.t 114)),
         S 116 (.ld false 1 (.t 115)),
         S 117 (.bin .eql .bool (.t 112) (.t 116)),
         S 118 (.mv (.t 117)),
         ⟨(some 119), .mv (.t 19), (some (118, false)), []⟩,
         ⟨(some 120), .mv (.t 119), (some (118, false)), []⟩,
         ⟨(some 121), .fld 1 (.t 18), (some (120, true)), []⟩,
         ⟨(some 122), .ld false 1 (.t 121), (some (120, true)), []⟩,
         ⟨(some 123), .mv (.t 17), (some (120, true)), []⟩,
         ⟨(some 124), .bin .neq .none (.t 122) (.t 123), (some (120, true)), []⟩,
         ⟨(some 125), .pick (.t 120) (.t 124) (xB false), (some (118, false)), []⟩,
         S 126 (.pick (.t 118) (xB true) (.t 125)),
         S 127 (.mv (.t 126)),
         ⟨(some 128), .mv (.t 19), (some (127, false)), []⟩,
         ⟨(some 129), .un .not (.t 128), (some (127, false)), []⟩,
         ⟨(some 130), .mv (.t 129), (some (127, false)), []⟩,
         ⟨(some 131), .mv (.t 7), (some (130, true)), []⟩,
         ⟨(some 132), .mv (.t 8), (some (130, true)), []⟩,
         ⟨(some 133), .mv (.t 17), (some (130, true)), []⟩,
         ⟨(some 134), .ixa 2 (.t 132) (.t 133), (some (130, true)), []⟩,
         ⟨(some 135), .ld true 2 (.t 134), (some (130, true)), []⟩,
         ⟨(some 136), .call n_Count [(.t 131), (.t 135)], (some (130, true)), []⟩,
         ⟨(some 137), .bin .neq .none (.t 136) (xI 0), (some (130, true)), []⟩,
         ⟨(some 138), .mv (.t 137), (some (130, true)), []⟩,
         ⟨(some 139), .mv (.t 7), (some (138, false)), []⟩,
         ⟨(some 140), .mv (.t 8), (some (138, false)), []⟩,
         ⟨(some 141), .mv (.t 17), (some (138, false)), []⟩,
         ⟨(some 142), .ixa 2 (.t 140) (.t 141), (some (138, false)), []⟩,
         ⟨(some 143), .ld true 2 (.t 142), (some (138, false)), []⟩,
         ⟨(some 144), .call n_Free [(.t 139), (.t 143)], (some (138, false)), []⟩,
         ⟨(some 145), .pick (.t 138) (xB true) (.t 144), (some (130, true)), []⟩,
         ⟨(some 146), .pick (.t 130) (.t 145) (xB false), (some (127, false)), []⟩,
         S 147 (.pick (.t 127) (xB true) (.t 146))])
       (.cond (.t 147)
        (.seq (.ops [S 4 (.mv (xB false))])
        (.ret))
        (.skip)))))
      (.ops [S 101 (.mv (.t 17)),
        S 102 (.bin .add .none (.t 101) (xI 1)),
        S 17 (.mv (.t 102))]))))))))))
   (.ops [S 34 (.mv (.t 10)),
     S 35 (.bin .add .none (.t 34) (xI 1)),
     S 10 (.mv (.t 35))]))))))
 (.seq (.ops [S 148 (.mv (.t 5)),
   S 4 (.mv (.t 148))])
 (.ret)))))))),
 [.tmp 4], false, true⟩
/- sibyl/sibyllaw11.StoreTurns -/
def d_StoreTurns : DFn := ⟨2,
 .seq (.ops [S 4 (.mv (xB false))])
 (.seq (.ops [S 21 (.call n_awake []),
   S 5 (.mv (.t 21))])
 (.seq (.ops [S 22 (.call n_New [(xI 1)]),
   S 6 (.mv (.t 22))])
 (.seq (.ops [S 23 (.mv (.t 0)),
   S 24 (.call n_rest [(.t 23), (xI 41)]),
   S 7 (.mv (.t 24))])
 (.seq (.seq (.ops [S 8 (.mv (xI 0))])
 (.block 0 (.loop [1, 5, 6, 7, 8] (.seq (.seq (.ops [S 25 (.mv (.t 8)),
     S 26 (.mv (.t 7)),
     S 27 (.bin .lss .none (.t 25) (.t 26))])
   (.cond (.t 27)
    (.skip)
    (.exit 0)))
   (.seq (.block 1 (.seq (.ops [S 31 (.mv (.t 6)),
      S 32 (.mv (.t 8)),
      S 33 (.build [(eI 0), (eI 0), (eI 0), (eI 0), (eI 0), (eI 0)] [(1, 1, (.t 32))]),
      S 34 (.call n_Take [(.t 31), (.t 33)]),
      S 30 (.mv (.t 34)),
      S 35 (.ext (.t 30) 0),
      S 36 (.ext (.t 30) 1),
      S 9 (.new true [(eI 0), (eI 0)]),
      E (.st 2 (.t 9) (.t 35)),
      S 10 (.mv (.t 36))])
    (.seq (.seq (.ops [S 37 (.mv (.t 10)),
      S 38 (.un .not (.t 37)),
      S 39 (.mv (.t 38)),
      ⟨(some 40), .fld 0 (.t 9), (some (39, false)), []⟩,
      ⟨(some 41), .ld false 1 (.t 40), (some (39, false)), []⟩,
      ⟨(some 42), .bin .neq .none (.t 41) (xI 0), (some (39, false)), []⟩,
      S 43 (.pick (.t 39) (xB true) (.t 42)),
      S 44 (.mv (.t 43)),
      ⟨(some 45), .fld 1 (.t 9), (some (44, false)), []⟩,
      ⟨(some 46), .ld false 1 (.t 45), (some (44, false)), []⟩,
      ⟨(some 47), .mv (.t 8), (some (44, false)), []⟩,
      ⟨(some 48), .bin .neq .none (.t 46) (.t 47), (some (44, false)), []⟩,
      S 49 (.pick (.t 44) (xB true) (.t 48))])
    (.cond (.t 49)
     (.seq (.ops [S 4 (.mv (xB false))])
     (.ret))
     (.skip)))
    (.seq (.ops [S 11 (.mv (xI 1))])
    (.seq (.seq (.ops [S 50 (.mv (.t 8)),
      S 51 (.mv (.t 1)),
      S 52 (.len 0 (.t 51)),
      S 53 (.bin .lss .none (.t 50) (.t 52))])
    (.cond (.t 53)
     (.ops [S 54 (.mv (.t 1)),
       S 55 (.mv (.t 8)),
       S 56 (.ixa 1 (.t 54) (.t 55)),
       S 57 (.ld false 1 (.t 56)),
       S 58 (.call n_rest [(.t 57), (xI 5)]),
       S 59 (.bin .add .none (xI 1) (.t 58)),
       S 11 (.mv (.t 59))])
     (.skip)))
    (.seq (.ops [S 61 (.mv (.t 6)),
      S 62 (.ld true 2 (.t 9)),
      S 63 (.mv (.t 11)),
      S 64 (.bin .sub .none (.t 63) (xI 1)),
      S 65 (.call n_Add [(.t 61), (.t 62), (.t 64)]),
      S 60 (.mv (.t 65)),
      S 66 (.ext (.t 60) 0),
      S 67 (.ext (.t 60) 1),
      S 12 (.mv (.t 66)),
      S 13 (.mv (.t 67))])
    (.seq (.seq (.ops [S 68 (.mv (.t 12)),
      S 69 (.mv (.t 11)),
      S 70 (.bin .neq .none (.t 68) (.t 69)),
      S 71 (.mv (.t 70)),
      ⟨(some 72), .mv (.t 6), (some (71, false)), []⟩,
      ⟨(some 73), .ld true 2 (.t 9), (some (71, false)), []⟩,
      ⟨(some 74), .call n_Free [(.t 72), (.t 73)], (some (71, false)), []⟩,
      S 75 (.pick (.t 71) (xB true) (.t 74))])
    (.cond (.t 75)
     (.seq (.ops [S 4 (.mv (xB false))])
     (.ret))
     (.skip)))
    (.seq (.block 2 (.loop [1, 5, 6, 7, 8, 9, 11] (.seq (.seq (.ops [S 76 (.mv (.t 11)),
        S 77 (.bin .gtr .none (.t 76) (xI 0))])
      (.cond (.t 77)
       (.skip)
       (.exit 2)))
      (.seq (.block 3 (.seq (.ops [S 81 (.mv (.t 6)),
         S 82 (.ld true 2 (.t 9)),
         S 83 (.call n_Add [(.t 81), (.t 82), (xI (-1))]),
         S 80 (.mv (.t 83)),
         S 84 (.ext (.t 80) 0),
         S 85 (.ext (.t 80) 1),
         S 14 (.mv (.t 84)),
         S 15 (.mv (.t 85))])
       (.seq (.ops [S 86 (.mv (.t 15)),
         S 87 (.un .not (.t 86)),
         S 88 (.mv (.t 87)),
         ⟨(some 89), .mv (.t 14), (some (88, false)), []⟩,
         ⟨(some 90), .mv (.t 11), (some (88, false)), []⟩,
         ⟨(some 91), .bin .sub .none (.t 90) (xI 1), (some (88, false)), []⟩,
         ⟨(some 92), .bin .neq .none (.t 89) (.t 91), (some (88, false)), []⟩,
         S 93 (.pick (.t 88) (xB true) (.t 92))])
       (.cond (.t 93)
        (.seq (.ops [S 4 (.mv (xB false))])
        (.ret))
        (.skip)))))
      (.ops [S 78 (.mv (.t 11)),
        S 79 (.bin .sub .none (.t 78) (xI 1)),
        S 11 (.mv (.t 79))])))))
    (.seq (.ops [S 95 (.mv (.t 6)),
      S 96 (.ld true 2 (.t 9)),
      S 97 (.call n_Get [(.t 95), (.t 96)]),
      S 94 (.mv (.t 97)),
      S 98 (.ext (.t 94) 0),
      S 99 (.ext (.t 94) 1),
      S 16 (.new true [(eI 0), (eI 0), (eI 0), (eI 0), (eI 0), (eI 0)]),
      E (.st 6 (.t 16) (.t 98)),
      S 17 (.mv (.t 99))])
    (.seq (.seq (.ops [S 100 (.mv (.t 17)),
      S 101 (.un .not (.t 100)),
      S 102 (.mv (.t 101)),
      ⟨(some 103), .fld 1 (.t 16), (some (102, false)), []⟩,
      ⟨(some 104), .ld false 1 (.t 103), (some (102, false)), []⟩,
      ⟨(some 105), .mv (.t 8), (some (102, false)), []⟩,
      ⟨(some 106), .bin .neq .none (.t 104) (.t 105), (some (102, false)), []⟩,
      S 107 (.pick (.t 102) (xB true) (.t 106)),
      S 108 (.mv (.t 107)),
      ⟨(some 109), .mv (.t 6), (some (108, false)), []⟩,
      ⟨(some 110), .ld true 2 (.t 9), (some (108, false)), []⟩,
      ⟨(some 111), .call n_Free [(.t 109), (.t 110)], (some (108, false)), []⟩,
      ⟨(some 112), .un .not (.t 111), (some (108, false)), []⟩,
      S 113 (.pick (.t 108) (xB true) (.t 112))])
    (.cond (.t 113)
     (.seq (.ops [S 4 (.mv (xB false))])
     (.ret))
     (.skip)))
    (.seq (.ops [S 18 (.mv (xI 0))])
    (.block 4 (.loop [1, 5, 6, 7, 8, 18] (.seq (.seq (.ops [S 114 (.mv (.t 18)),
        S 115 (.mv (.t 8)),
        S 116 (.bin .leq .none (.t 114) (.t 115))])
      (.cond (.t 116)
       (.skip)
       (.exit 4)))
      (.seq (.block 5 (.seq (.ops [S 120 (.mv (.t 6)),
         S 121 (.mv (.t 18)),
         S 122 (.build [(eI 0), (eI 0)] [(1, 1, (.t 121))]),
         S 123 (.call n_Get [(.t 120), (.t 122)]),
         S 119 (.mv (.t 123)),
         S 124 (.ext (.t 119) 0),
         S 125 (.ext (.t 119) 1),
         S 19 (.new true [(eI 0), (eI 0), (eI 0), (eI 0), (eI 0), (eI 0)]),
         E (.st 6 (.t 19) (.t 124)),
         S 20 (.mv (.t 125))])
       (.seq (.ops [S 126 (.mv (.t 20))])
       (.cond (.t 126)
        (.seq (.ops [S 4 (.mv (xB false))])
        (.ret))
        (.skip)))))
      (.ops [S 117 (.mv (.t 18)),
        S 118 (.bin .add .none (.t 117) (xI 1)),
        S 18 (.mv (.t 118))]))))))))))))))))
   (.ops [S 28 (.mv (.t 8)),
     S 29 (.bin .add .none (.t 28) (xI 1)),
     S 8 (.mv (.t 29))]))))))
 (.seq (.ops [S 127 (.mv (.t 5)),
   S 128 (.mv (.t 127)),
   ⟨(some 129), .mv (.t 6), (some (128, true)), []⟩,
   ⟨(some 130), .call n_Used [(.t 129)], (some (128, true)), []⟩,
   ⟨(some 131), .mv (.t 6), (some (128, true)), []⟩,
   ⟨(some 132), .call n_Live [(.t 131)], (some (128, true)), []⟩,
   ⟨(some 133), .bin .add .none (.t 130) (.t 132), (some (128, true)), []⟩,
   ⟨(some 134), .bin .eql .none (.t 133) (xI 0), (some (128, true)), []⟩,
   S 135 (.pick (.t 128) (.t 134) (xB false)),
   S 4 (.mv (.t 135))])
 (.ret)))))),
 [.tmp 4], false, true⟩
/- sibyl/sibyllaw11.StoreCounts -/
def d_StoreCounts : DFn := ⟨1,
 .seq (.ops [S 2 (.mv (xB false))])
 (.seq (.ops [S 16 (.call n_awake []),
   S 3 (.mv (.t 16))])
 (.seq (.ops [S 17 (.call n_New [(xI 2)]),
   S 4 (.mv (.t 17))])
 (.seq (.ops [S 19 (.mv (.t 4)),
   S 20 (.build [(eI 0), (eI 0), (eI 0), (eI 0), (eI 0), (eI 0)] [(0, 1, (xI 2))]),
   S 21 (.call n_Take [(.t 19), (.t 20)]),
   S 18 (.mv (.t 21)),
   S 22 (.ext (.t 18) 0),
   S 23 (.ext (.t 18) 1),
   S 5 (.new true [(eI 0), (eI 0)]),
   E (.st 2 (.t 5) (.t 22)),
   S 6 (.mv (.t 23))])
 (.seq (.ops [S 25 (.mv (.t 4)),
   S 26 (.build [(eI 0), (eI 0), (eI 0), (eI 0), (eI 0), (eI 0)] [(0, 1, (xI 5))]),
   S 27 (.call n_Take [(.t 25), (.t 26)]),
   S 24 (.mv (.t 27)),
   S 28 (.ext (.t 24) 0),
   S 29 (.ext (.t 24) 1),
   S 7 (.new true [(eI 0), (eI 0)]),
   E (.st 2 (.t 7) (.t 28)),
   S 8 (.mv (.t 29))])
 (.seq (.ops [S 9 (.mv (xI 1))])
 (.seq (.seq (.ops [S 10 (.mv (xI 0))])
 (.block 0 (.loop [0, 3, 4, 5, 6, 7, 8, 9, 10] (.seq (.seq (.ops [S 30 (.mv (.t 10)),
     S 31 (.mv (.t 0)),
     S 32 (.len 0 (.t 31)),
     S 33 (.bin .lss .none (.t 30) (.t 32)),
     S 34 (.mv (.t 33)),
     ⟨(some 35), .mv (.t 10), (some (34, true)), []⟩,
     ⟨(some 36), .bin .lss .none (.t 35) (xI 20), (some (34, true)), []⟩,
     S 37 (.pick (.t 34) (.t 36) (xB false))])
   (.cond (.t 37)
    (.skip)
    (.exit 0)))
   (.seq (.block 1 (.seq (.ops [S 40 (.mv (.t 0)),
      S 41 (.mv (.t 10)),
      S 42 (.ixa 1 (.t 40) (.t 41)),
      S 43 (.ld false 1 (.t 42)),
      S 44 (.call n_rest [(.t 43), (xI 9)]),
      S 45 (.bin .sub .none (.t 44) (xI 4)),
      S 11 (.mv (.t 45))])
    (.seq (.ops [S 47 (.mv (.t 4)),
      S 48 (.ld true 2 (.t 5)),
      S 49 (.mv (.t 11)),
      S 50 (.call n_Add [(.t 47), (.t 48), (.t 49)]),
      S 46 (.mv (.t 50)),
      S 51 (.ext (.t 46) 0),
      S 52 (.ext (.t 46) 1),
      S 12 (.mv (.t 51)),
      S 13 (.mv (.t 52))])
    (.seq (.ops [S 53 (.mv (.t 9)),
      S 54 (.bin .gtr .none (.t 53) (xI 0)),
      S 55 (.mv (.t 54)),
      ⟨(some 56), .mv (.t 9), (some (55, true)), []⟩,
      ⟨(some 57), .mv (.t 11), (some (55, true)), []⟩,
      ⟨(some 58), .bin .add .none (.t 56) (.t 57), (some (55, true)), []⟩,
      ⟨(some 59), .bin .geq .none (.t 58) (xI 0), (some (55, true)), []⟩,
      S 60 (.pick (.t 55) (.t 59) (xB false)),
      S 14 (.mv (.t 60))])
    (.seq (.seq (.ops [S 61 (.mv (.t 13)),
      S 62 (.mv (.t 14)),
      S 63 (.bin .neq .bool (.t 61) (.t 62)),
      S 64 (.mv (.t 63)),
      ⟨(some 65), .mv (.t 14), (some (64, false)), []⟩,
      ⟨(some 66), .mv (.t 65), (some (64, false)), []⟩,
      ⟨(some 67), .mv (.t 12), (some (66, true)), []⟩,
      ⟨(some 68), .mv (.t 9), (some (66, true)), []⟩,
      ⟨(some 69), .mv (.t 11), (some (66, true)), []⟩,
      ⟨(some 70), .bin .add .none (.t 68) (.t 69), (some (66, true)), []⟩,
      ⟨(some 71), .bin .neq .none (.t 67) (.t 70), (some (66, true)), []⟩,
      ⟨(some 72), .pick (.t 66) (.t 71) (xB false), (some (64, false)), []⟩,
      S 73 (.pick (.t 64) (xB true) (.t 72)),
      S 74 (.mv (.t 73)),
      ⟨(some 75), .mv (.t 14), (some (74, false)), []⟩,
      ⟨(some 76), .un .not (.t 75), (some (74, false)), []⟩,
      ⟨(some 77), .mv (.t 76), (some (74, false)), []⟩,
      ⟨(some 78), .mv (.t 12), (some (77, true)), []⟩,
      ⟨(some 79), .bin .neq .none (.t 78) (xI 0), (some (77, true)), []⟩,
      ⟨(some 80), .pick (.t 77) (.t 79) (xB false), (some (74, false)), []⟩,
      S 81 (.pick (.t 74) (xB true) (.t 80))])
    (.cond (.t 81)
     (.seq (.ops [S 2 (.mv (xB false))])
     (.ret))
     (.skip)))
    (.seq (.seq (.ops [S 82 (.mv (.t 14))])
    (.cond (.t 82)
     (.ops [S 83 (.mv (.t 9)),
       S 84 (.mv (.t 11)),
       S 85 (.bin .add .none (.t 83) (.t 84)),
       S 9 (.mv (.t 85))])
     (.skip)))
    (.seq (.ops [S 86 (.mv (.t 4)),
      S 87 (.ld true 2 (.t 5)),
      S 88 (.call n_Count [(.t 86), (.t 87)]),
      S 89 (.mv (.t 9)),
      S 90 (.bin .neq .none (.t 88) (.t 89)),
      S 91 (.mv (.t 90)),
      ⟨(some 92), .mv (.t 4), (some (91, false)), []⟩,
      ⟨(some 93), .ld true 2 (.t 7), (some (91, false)), []⟩,
      ⟨(some 94), .call n_Count [(.t 92), (.t 93)], (some (91, false)), []⟩,
      ⟨(some 95), .bin .neq .none (.t 94) (xI 1), (some (91, false)), []⟩,
      S 96 (.pick (.t 91) (xB true) (.t 95)),
      S 97 (.mv (.t 96)),
      ⟨(some 98), .mv (.t 4), (some (97, false)), []⟩,
      ⟨(some 99), .call n_Used [(.t 98)], (some (97, false)), []⟩,
      ⟨(some 100), .bin .neq .none (.t 99) (xI 2), (some (97, false)), []⟩,
      S 101 (.pick (.t 97) (xB true) (.t 100)),
      S 102 (.mv (.t 101)),
      ⟨(some 103), .mv (.t 9), (some (102, false)), []⟩,
      ⟨(some 104), .bin .gtr .none (.t 103) (xI 0), (some (102, false)), []⟩,
      ⟨(some 105), .mv (.t 104), (some (102, false)), []⟩,
      ⟨(some 106), .mv (.t 4), (some (105, true)), []⟩,
      ⟨(some 107), .ld true 2 (.t 5), (some (105, true)), []⟩,
      ⟨(some 108), .call n_Free [(.t 106), (.t 107)], (some (105, true)), []⟩,
      ⟨(some 109), .pick (.t 105) (.t 108) (xB false), (some (102, false)), []⟩,
      S 110 (.pick (.t 102) (xB true) (.t 109))])
    (.cond (.t 110)
     (.seq (.ops [S 2 (.mv (xB false))])
     (.ret))
     (.skip)))))))))
   (.ops [S 38 (.mv (.t 10)),
     S 39 (.bin .add .none (.t 38) (xI 1)),
     S 10 (.mv (.t 39))]))))))
 (.seq (.ops [S 15 (.mv (xI 1))])
 (.seq (.seq (.ops [S 111 (.mv (.t 9)),
   S 112 (.bin .gtr .none (.t 111) (xI 0))])
 (.cond (.t 112)
  (.ops [S 15 (.mv (xI 2))])
  (.skip)))
 (.seq (.ops [S 113 (.mv (.t 3)),
   S 114 (.mv (.t 113)),
   ⟨(some 115), .mv (.t 6), (some (114, true)), []⟩,
   S 116 (.pick (.t 114) (.t 115) (xB false)),
   S 117 (.mv (.t 116)),
   ⟨(some 118), .mv (.t 8), (some (117, true)), []⟩,
   S 119 (.pick (.t 117) (.t 118) (xB false)),
   S 120 (.mv (.t 119)),
   ⟨(some 121), .mv (.t 4), (some (120, true)), []⟩,
   ⟨(some 122), .call n_Live [(.t 121)], (some (120, true)), []⟩,
   ⟨(some 123), .mv (.t 15), (some (120, true)), []⟩,
   ⟨(some 124), .bin .eql .none (.t 122) (.t 123), (some (120, true)), []⟩,
   S 125 (.pick (.t 120) (.t 124) (xB false)),
   S 2 (.mv (.t 125))])
 (.ret)))))))))),
 [.tmp 2], false, true⟩
/- sibyl/sibyllaw11.StorePlays -/
def d_StorePlays : DFn := ⟨2,
 .seq (.ops [S 4 (.mv (xB false))])
 (.seq (.ops [S 27 (.call n_awake []),
   S 5 (.mv (.t 27))])
 (.seq (.ops [S 28 (.mv (.t 0)),
   S 29 (.call n_rest [(.t 28), (xI 6)]),
   S 30 (.bin .add .none (xI 1) (.t 29)),
   S 6 (.mv (.t 30))])
 (.seq (.ops [S 31 (.mv (.t 6)),
   S 32 (.call n_New [(.t 31)]),
   S 7 (.mv (.t 32))])
 (.seq (.ops [S 33 (.mv (.t 6)),
   S 34 (.build [(eI 0), (.full [])] [(0, 1, (.t 33))]),
   S 35 (.box true 2 (.t 34)),
   S 8 (.mv (.t 35))])
 (.seq (.ops [S 9 (.nils 2 true)])
 (.seq (.seq (.ops [S 10 (.mv (xI 0))])
 (.block 0 (.loop [0, 1, 5, 7, 8, 9, 10] (.seq (.seq (.ops [S 36 (.mv (.t 10)),
     S 37 (.mv (.t 1)),
     S 38 (.len 0 (.t 37)),
     S 39 (.bin .lss .none (.t 36) (.t 38)),
     S 40 (.mv (.t 39)),
     ⟨(some 41), .mv (.t 10), (some (40, true)), []⟩,
     ⟨(some 42), .bin .lss .none (.t 41) (xI 60), (some (40, true)), []⟩,
     S 43 (.pick (.t 40) (.t 42) (xB false))])
   (.cond (.t 43)
    (.skip)
    (.exit 0)))
   (.seq (.block 1 (.seq (.ops [S 46 (.mv (.t 1)),
      S 47 (.mv (.t 10)),
      S 48 (.ixa 3 (.t 46) (.t 47)),
      S 49 (.ld true 3 (.t 48)),
      S 11 (.new true [(eI 0), (eI 0), (eI 0)]),
      E (.st 3 (.t 11) (.t 49))])
    (.seq (.ops [S 50 (.fld 1 (.t 11)),
      S 51 (.ld false 1 (.t 50)),
      S 54 (.fld 2 (.t 11)),
      S 55 (.ld false 1 (.t 54)),
      S 12 (.new true [(eI 0), (eI 0)]),
      ⟨(some 52), .call n_rest [(.t 51), (xI 6)], none, [(55, .ld false 1 (.t 54), none)]⟩,
      S 53 (.bin .sub .none (.t 52) (xI 1)),
      S 56 (.call n_rest [(.t 55), (xI 4)]),
      S 57 (.bin .sub .none (.t 56) (xI 1)),
      S 58 (.build [(eI 0), (eI 0)] [(0, 1, (.t 53)), (1, 1, (.t 57))]),
      E (.st 2 (.t 12) (.t 58))])
    (.seq (.ops [S 59 (.fld 0 (.t 11)),
      S 60 (.ld false 1 (.t 59)),
      S 61 (.call n_rest [(.t 60), (xI 6)]),
      S 13 (.mv (.t 61))])
    (.seq (.seq (.ops [S 62 (.mv (.t 13)),
      S 63 (.bin .neq .none (.t 62) (xI 5)),
      S 64 (.mv (.t 63)),
      ⟨(some 65), .mv (.t 9), (some (64, true)), []⟩,
      ⟨(some 66), .len 0 (.t 65), (some (64, true)), []⟩,
      ⟨(some 67), .bin .gtr .none (.t 66) (xI 0), (some (64, true)), []⟩,
      S 68 (.pick (.t 64) (.t 67) (xB false))])
    (.cond (.t 68)
     (.ops [S 69 (.mv (.t 9)),
       S 70 (.fld 1 (.t 11)),
       S 71 (.ld false 1 (.t 70)),
       S 72 (.mv (.t 9)),
       S 73 (.len 0 (.t 72)),
       S 74 (.call n_rest [(.t 71), (.t 73)]),
       S 75 (.ixa 2 (.t 69) (.t 74)),
       S 76 (.ld true 2 (.t 75)),
       E (.st 2 (.t 12) (.t 76))])
     (.skip)))
    (.seq (.seq (.ops [S 77 (.mv (.t 13))])
    (.block 2 (.seq (.seq (.ops [S 109 (.bin .eql .none (.t 77) (xI 0)),
       S 108 (.mv (.t 109))])
     (.cond (.t 108)
      (.skip)
      (.ops [S 110 (.bin .eql .none (.t 77) (xI 1)),
        S 108 (.mv (.t 110))])))
     (.cond (.t 108)
      (.seq (.ops [S 112 (.mv (.t 7)),
        S 113 (.fld 1 (.t 11)),
        S 114 (.ld false 1 (.t 113)),
        S 115 (.build [(eI 0), (eI 0), (eI 0), (eI 0), (eI 0), (eI 0)] [(0, 1, (.t 114))]),
        S 116 (.call n_Take [(.t 112), (.t 115)]),
        S 111 (.mv (.t 116)),
        S 117 (.ext (.t 111) 0),
        S 118 (.ext (.t 111) 1),
        S 14 (.new true [(eI 0), (eI 0)]),
        E (.st 2 (.t 14) (.t 117)),
        S 15 (.mv (.t 118))])
      (.seq (.ops [S 120 (.mv (.t 8)),
        S 121 (.fld 1 (.t 11)),
        S 122 (.ld false 1 (.t 121)),
        S 123 (.build [(eI 0), (eI 0), (eI 0), (eI 0), (eI 0), (eI 0)] [(0, 1, (.t 122))]),
        S 124 (.call n_rTake [(.t 120), (.t 123)]),
        S 119 (.mv (.t 124)),
        S 125 (.ext (.t 119) 0),
        S 126 (.ext (.t 119) 1),
        S 16 (.new true [(eI 0), (eI 0)]),
        E (.st 2 (.t 16) (.t 125)),
        S 17 (.mv (.t 126))])
      (.seq (.seq (.ops [S 127 (.ld true 2 (.t 14)),
        S 128 (.ld true 2 (.t 16)),
        S 129 (.bin .neq (.cells [.int, .int]) (.t 127) (.t 128)),
        S 130 (.mv (.t 129)),
        ⟨(some 131), .mv (.t 15), (some (130, false)), []⟩,
        ⟨(some 132), .mv (.t 17), (some (130, false)), []⟩,
        ⟨(some 133), .bin .neq .bool (.t 131) (.t 132), (some (130, false)), []⟩,
        S 134 (.pick (.t 130) (xB true) (.t 133))])
      (.cond (.t 134)
       (.seq (.ops [S 4 (.mv (xB false))])
       (.ret))
       (.skip)))
      (.seq (.ops [S 135 (.mv (.t 15))])
      (.cond (.t 135)
       (.ops [S 136 (.mv (.t 9)),
         S 137 (.ld true 2 (.t 14)),
         S 138 (.lit 2 true [[(eI 0), (eI 0)]] [(0, (.t 137))]),
         S 139 (.app 2 true 16 (.t 136) (.t 138)),
         S 9 (.mv (.t 139))])
       (.skip))))))
      (.seq (.ops [S 141 (.bin .eql .none (.t 77) (xI 4)),
        S 140 (.mv (.t 141))])
      (.cond (.t 140)
       (.seq (.ops [S 142 (.mv (.t 7)),
         S 143 (.ld true 2 (.t 12)),
         S 145 (.mv (.t 8)),
         S 146 (.ld true 2 (.t 12)),
         ⟨(some 144), .call n_Free [(.t 142), (.t 143)], none, [(146, .ld true 2 (.t 12), none)]⟩,
         S 147 (.call n_rFree [(.t 145), (.t 146)]),
         S 148 (.bin .neq .bool (.t 144) (.t 147))])
       (.cond (.t 148)
        (.seq (.ops [S 4 (.mv (xB false))])
        (.ret))
        (.skip)))
       (.seq (.ops [S 78 (.fld 2 (.t 11)),
         S 79 (.ld false 1 (.t 78)),
         S 18 (.mv (.t 79))])
       (.seq (.seq (.ops [S 80 (.mv (.t 13)),
         S 81 (.bin .neq .none (.t 80) (xI 5))])
       (.cond (.t 81)
        (.ops [S 82 (.fld 2 (.t 11)),
          S 83 (.ld false 1 (.t 82)),
          S 84 (.call n_rest [(.t 83), (xI 4)]),
          S 85 (.bin .sub .none (.t 84) (xI 2)),
          S 18 (.mv (.t 85))])
        (.skip)))
       (.seq (.ops [S 87 (.mv (.t 7)),
         S 88 (.ld true 2 (.t 12)),
         S 89 (.mv (.t 18)),
         S 90 (.call n_Add [(.t 87), (.t 88), (.t 89)]),
         S 86 (.mv (.t 90)),
         S 91 (.ext (.t 86) 0),
         S 92 (.ext (.t 86) 1),
         S 19 (.mv (.t 91)),
         S 20 (.mv (.t 92))])
       (.seq (.ops [S 94 (.mv (.t 8)),
         S 95 (.ld true 2 (.t 12)),
         S 96 (.mv (.t 18)),
         S 97 (.call n_rAdd [(.t 94), (.t 95), (.t 96)]),
         S 93 (.mv (.t 97)),
         S 98 (.ext (.t 93) 0),
         S 99 (.ext (.t 93) 1),
         S 21 (.mv (.t 98)),
         S 22 (.mv (.t 99))])
       (.seq (.ops [S 100 (.mv (.t 19)),
         S 101 (.mv (.t 21)),
         S 102 (.bin .neq .none (.t 100) (.t 101)),
         S 103 (.mv (.t 102)),
         ⟨(some 104), .mv (.t 20), (some (103, false)), []⟩,
         ⟨(some 105), .mv (.t 22), (some (103, false)), []⟩,
         ⟨(some 106), .bin .neq .bool (.t 104) (.t 105), (some (103, false)), []⟩,
         S 107 (.pick (.t 103) (xB true) (.t 106))])
       (.cond (.t 107)
        (.seq (.ops [S 4 (.mv (xB false))])
        (.ret))
        (.skip)))))))))))))
    (.seq (.ops [S 150 (.mv (.t 7)),
      S 151 (.ld true 2 (.t 12)),
      S 152 (.call n_Get [(.t 150), (.t 151)]),
      S 149 (.mv (.t 152)),
      S 153 (.ext (.t 149) 0),
      S 154 (.ext (.t 149) 1),
      S 23 (.new true [(eI 0), (eI 0), (eI 0), (eI 0), (eI 0), (eI 0)]),
      E (.st 6 (.t 23) (.t 153)),
      S 24 (.mv (.t 154))])
    (.seq (.ops [S 156 (.mv (.t 8)),
      S 157 (.ld true 2 (.t 12)),
      S 158 (.call n_rGet [(.t 156), (.t 157)]),
      S 155 (.mv (.t 158)),
      S 159 (.ext (.t 155) 0),
      S 160 (.ext (.t 155) 1),
      S 25 (.new true [(eI 0), (eI 0), (eI 0), (eI 0), (eI 0), (eI 0)]),
      E (.st 6 (.t 25) (.t 159)),
      S 26 (.mv (.t 160))])
    (.seq (.ops [S 161 (.ld true 6 (.t 23)),
      S 162 (.ld true 6 (.t 25)),
      S 163 (.bin .neq (.cells [.int, .int, .int, .int, .int, .int]) (.t 161) (.t 162)),
      S 164 (.mv (.t 163)),
      ⟨(some 165), .mv (.t 24), (some (164, false)), []⟩,
      ⟨(some 166), .mv (.t 26), (some (164, false)), []⟩,
      ⟨(some 167), .bin .neq .bool (.t 165) (.t 166), (some (164, false)), []⟩,
      S 168 (.pick (.t 164) (xB true) (.t 167)),
      S 169 (.mv (.t 168)),
      ⟨(some 170), .mv (.t 7), (some (169, false)), []⟩,
      ⟨(some 171), .ld true 2 (.t 12), (some (169, false)), []⟩,
      ⟨(some 173), .mv (.t 8), (some (169, false)), []⟩,
      ⟨(some 174), .ld true 2 (.t 12), (some (169, false)), []⟩,
      ⟨(some 172), .call n_Count [(.t 170), (.t 171)], (some (169, false)), [(174, .ld true 2 (.t 12), (some (169, false)))]⟩,
      ⟨(some 175), .call n_rCount [(.t 173), (.t 174)], (some (169, false)), []⟩,
      ⟨(some 176), .bin .neq .none (.t 172) (.t 175), (some (169, false)), []⟩,
      S 177 (.pick (.t 169) (xB true) (.t 176)),
      S 178 (.mv (.t 177)),
      ⟨(some 179), .mv (.t 7), (some (178, false)), []⟩,
      ⟨(some 181), .mv (.t 8), (some (178, false)), []⟩,
      ⟨(some 180), .call n_Used [(.t 179)], (some (178, false)), []⟩,
      ⟨(some 182), .call n_rUsed [(.t 181), (xB false)], (some (178, false)), []⟩,
      ⟨(some 183), .bin .neq .none (.t 180) (.t 182), (some (178, false)), []⟩,
      S 184 (.pick (.t 178) (xB true) (.t 183)),
      S 185 (.mv (.t 184)),
      ⟨(some 186), .mv (.t 7), (some (185, false)), []⟩,
      ⟨(some 188), .mv (.t 8), (some (185, false)), []⟩,
      ⟨(some 187), .call n_Live [(.t 186)], (some (185, false)), []⟩,
      ⟨(some 189), .call n_rUsed [(.t 188), (xB true)], (some (185, false)), []⟩,
      ⟨(some 190), .bin .neq .none (.t 187) (.t 189), (some (185, false)), []⟩,
      S 191 (.pick (.t 185) (xB true) (.t 190))])
    (.cond (.t 191)
     (.seq (.ops [S 4 (.mv (xB false))])
     (.ret))
     (.skip)))))))))))
   (.ops [S 44 (.mv (.t 10)),
     S 45 (.bin .add .none (.t 44) (xI 1)),
     S 10 (.mv (.t 45))]))))))
 (.seq (.ops [S 192 (.mv (.t 5)),
   S 193 (.mv (.t 192)),
   ⟨(some 194), .mv (.t 0), (some (193, true)), []⟩,
   ⟨(some 195), .call n_New [(.t 194)], (some (193, true)), []⟩,
   ⟨(some 196), .bin .neq .ptr (.t 195) (.v .nilp), (some (193, true)), []⟩,
   ⟨(some 197), .mv (.t 0), (some (193, true)), []⟩,
   ⟨(some 198), .bin .geq .none (.t 197) (xI 1), (some (193, true)), []⟩,
   ⟨(some 199), .mv (.t 198), (some (193, true)), []⟩,
   ⟨(some 200), .mv (.t 0), (some (199, true)), []⟩,
   ⟨(some 201), .bin .leq .none (.t 200) (xI 4096), (some (199, true)), []⟩,
   ⟨(some 202), .pick (.t 199) (.t 201) (xB false), (some (193, true)), []⟩,
   ⟨(some 203), .bin .eql .bool (.t 196) (.t 202), (some (193, true)), []⟩,
   S 204 (.pick (.t 193) (.t 203) (xB false)),
   S 4 (.mv (.t 204))])
 (.ret)))))))),
 [.tmp 4], false, true⟩
/- sibyl/sibyllaw11.StoreNil -/
def d_StoreNil : DFn := ⟨2,
 .seq (.ops [S 2 (.box true 2 (.t 0)),
   S 4 (.mv (xB false))])
 (.seq (.ops [S 5 (.mv (.v .nilp))])
 (.seq (.ops [S 13 (.mv (.t 5)),
   S 14 (.build [(eI 0), (eI 0), (eI 0), (eI 0), (eI 0), (eI 0)] [(0, 1, (xI 1))]),
   S 15 (.call n_Take [(.t 13), (.t 14)]),
   S 12 (.mv (.t 15)),
   S 16 (.ext (.t 12) 0),
   S 17 (.ext (.t 12) 1),
   S 6 (.new true [(eI 0), (eI 0)]),
   E (.st 2 (.t 6) (.t 16)),
   S 7 (.mv (.t 17))])
 (.seq (.ops [S 19 (.mv (.t 5)),
   S 20 (.ld true 2 (.t 2)),
   S 21 (.mv (.t 1)),
   S 22 (.call n_Add [(.t 19), (.t 20), (.t 21)]),
   S 18 (.mv (.t 22)),
   S 23 (.ext (.t 18) 0),
   S 24 (.ext (.t 18) 1),
   S 8 (.mv (.t 23)),
   S 9 (.mv (.t 24))])
 (.seq (.ops [S 26 (.mv (.t 5)),
   S 27 (.ld true 2 (.t 2)),
   S 28 (.call n_Get [(.t 26), (.t 27)]),
   S 25 (.mv (.t 28)),
   S 29 (.ext (.t 25) 0),
   S 30 (.ext (.t 25) 1),
   S 10 (.new true [(eI 0), (eI 0), (eI 0), (eI 0), (eI 0), (eI 0)]),
   E (.st 6 (.t 10) (.t 29)),
   S 11 (.mv (.t 30))])
 (.seq (.ops [S 31 (.call n_awake []),
   S 32 (.mv (.t 31)),
   ⟨(some 33), .ld true 2 (.t 6), (some (32, true)), []⟩,
   ⟨(some 34), .build [(eI 0), (eI 0)] [], (some (32, true)), []⟩,
   ⟨(some 35), .bin .eql (.cells [.int, .int]) (.t 33) (.t 34), (some (32, true)), []⟩,
   S 36 (.pick (.t 32) (.t 35) (xB false)),
   S 37 (.mv (.t 36)),
   ⟨(some 38), .mv (.t 7), (some (37, true)), []⟩,
   ⟨(some 39), .un .not (.t 38), (some (37, true)), []⟩,
   S 40 (.pick (.t 37) (.t 39) (xB false)),
   S 41 (.mv (.t 40)),
   ⟨(some 42), .mv (.t 8), (some (41, true)), []⟩,
   ⟨(some 43), .bin .eql .none (.t 42) (xI 0), (some (41, true)), []⟩,
   S 44 (.pick (.t 41) (.t 43) (xB false)),
   S 45 (.mv (.t 44)),
   ⟨(some 46), .mv (.t 9), (some (45, true)), []⟩,
   ⟨(some 47), .un .not (.t 46), (some (45, true)), []⟩,
   S 48 (.pick (.t 45) (.t 47) (xB false)),
   S 49 (.mv (.t 48)),
   ⟨(some 50), .ld true 6 (.t 10), (some (49, true)), []⟩,
   ⟨(some 51), .build [(eI 0), (eI 0), (eI 0), (eI 0), (eI 0), (eI 0)] [], (some (49, true)), []⟩,
   ⟨(some 52), .bin .eql (.cells [.int, .int, .int, .int, .int, .int]) (.t 50) (.t 51), (some (49, true)), []⟩,
   S 53 (.pick (.t 49) (.t 52) (xB false)),
   S 54 (.mv (.t 53)),
   ⟨(some 55), .mv (.t 11), (some (54, true)), []⟩,
   ⟨(some 56), .un .not (.t 55), (some (54, true)), []⟩,
   S 57 (.pick (.t 54) (.t 56) (xB false)),
   S 58 (.mv (.t 57)),
   ⟨(some 59), .mv (.t 5), (some (58, true)), []⟩,
   ⟨(some 60), .ld true 2 (.t 2), (some (58, true)), []⟩,
   ⟨(some 61), .call n_Free [(.t 59), (.t 60)], (some (58, true)), []⟩,
   ⟨(some 62), .un .not (.t 61), (some (58, true)), []⟩,
   S 63 (.pick (.t 58) (.t 62) (xB false)),
   S 64 (.mv (.t 63)),
   ⟨(some 65), .mv (.t 5), (some (64, true)), []⟩,
   ⟨(some 66), .ld true 2 (.t 2), (some (64, true)), []⟩,
   ⟨(some 67), .call n_Count [(.t 65), (.t 66)], (some (64, true)), []⟩,
   ⟨(some 68), .mv (.t 5), (some (64, true)), []⟩,
   ⟨(some 69), .call n_Used [(.t 68)], (some (64, true)), []⟩,
   ⟨(some 70), .bin .add .none (.t 67) (.t 69), (some (64, true)), []⟩,
   ⟨(some 71), .mv (.t 5), (some (64, true)), []⟩,
   ⟨(some 72), .call n_Live [(.t 71)], (some (64, true)), []⟩,
   ⟨(some 73), .bin .add .none (.t 70) (.t 72), (some (64, true)), []⟩,
   ⟨(some 74), .bin .eql .none (.t 73) (xI 0), (some (64, true)), []⟩,
   S 75 (.pick (.t 64) (.t 74) (xB false)),
   S 4 (.mv (.t 75))])
 (.ret)))))),
 [.tmp 4], false, true⟩
/- sibyl/sibyllaw11.awake -/
def d_awake : DFn := ⟨0,
 .seq (.ops [S 0 (.mv (xB false))])
 (.seq (.ops [S 11 (.call n_New [(xI 1)]),
   S 1 (.mv (.t 11))])
 (.seq (.ops [S 13 (.mv (.t 1)),
   S 14 (.build [(eI 0), (eI 0), (eI 0), (eI 0), (eI 0), (eI 0)] [(0, 1, (xI 3))]),
   S 15 (.call n_Take [(.t 13), (.t 14)]),
   S 12 (.mv (.t 15)),
   S 16 (.ext (.t 12) 0),
   S 17 (.ext (.t 12) 1),
   S 2 (.new true [(eI 0), (eI 0)]),
   E (.st 2 (.t 2) (.t 16)),
   S 3 (.mv (.t 17))])
 (.seq (.ops [S 19 (.mv (.t 1)),
   S 20 (.build [(eI 0), (eI 0), (eI 0), (eI 0), (eI 0), (eI 0)] []),
   S 21 (.call n_Take [(.t 19), (.t 20)]),
   S 18 (.mv (.t 21)),
   S 22 (.ext (.t 18) 0),
   S 23 (.ext (.t 18) 1),
   S 4 (.new true [(eI 0), (eI 0)]),
   E (.st 2 (.t 4) (.t 22)),
   S 5 (.mv (.t 23))])
 (.seq (.ops [S 25 (.mv (.t 1)),
   S 26 (.ld true 2 (.t 2)),
   S 27 (.call n_Add [(.t 25), (.t 26), (xI (-1))]),
   S 24 (.mv (.t 27)),
   S 28 (.ext (.t 24) 0),
   S 29 (.ext (.t 24) 1),
   S 6 (.mv (.t 28)),
   S 7 (.mv (.t 29))])
 (.seq (.ops [S 30 (.mv (.t 1)),
   S 31 (.ld true 2 (.t 2)),
   S 32 (.call n_Free [(.t 30), (.t 31)]),
   S 8 (.mv (.t 32))])
 (.seq (.ops [S 34 (.mv (.t 1)),
   S 35 (.build [(eI 0), (eI 0), (eI 0), (eI 0), (eI 0), (eI 0)] []),
   S 36 (.call n_Take [(.t 34), (.t 35)]),
   S 33 (.mv (.t 36)),
   S 37 (.ext (.t 33) 0),
   S 38 (.ext (.t 33) 1),
   S 9 (.new true [(eI 0), (eI 0)]),
   E (.st 2 (.t 9) (.t 37)),
   S 10 (.mv (.t 38))])
 (.seq (.ops [S 39 (.ld true 2 (.t 2)),
   S 40 (.build [(eI 0), (eI 0)] []),
   S 41 (.bin .eql (.cells [.int, .int]) (.t 39) (.t 40)),
   S 42 (.mv (.t 41)),
   ⟨(some 43), .mv (.t 3), (some (42, true)), []⟩,
   S 44 (.pick (.t 42) (.t 43) (xB false)),
   S 45 (.mv (.t 44)),
   ⟨(some 46), .mv (.t 5), (some (45, true)), []⟩,
   ⟨(some 47), .un .not (.t 46), (some (45, true)), []⟩,
   S 48 (.pick (.t 45) (.t 47) (xB false)),
   S 49 (.mv (.t 48)),
   ⟨(some 50), .mv (.t 6), (some (49, true)), []⟩,
   ⟨(some 51), .bin .eql .none (.t 50) (xI 0), (some (49, true)), []⟩,
   S 52 (.pick (.t 49) (.t 51) (xB false)),
   S 53 (.mv (.t 52)),
   ⟨(some 54), .mv (.t 7), (some (53, true)), []⟩,
   S 55 (.pick (.t 53) (.t 54) (xB false)),
   S 56 (.mv (.t 55)),
   ⟨(some 57), .mv (.t 8), (some (56, true)), []⟩,
   S 58 (.pick (.t 56) (.t 57) (xB false)),
   S 59 (.mv (.t 58)),
   ⟨(some 60), .ld true 2 (.t 9), (some (59, true)), []⟩,
   ⟨(some 61), .build [(eI 0), (eI 0)] [(1, 1, (xI 1))], (some (59, true)), []⟩,
   ⟨(some 62), .bin .eql (.cells [.int, .int]) (.t 60) (.t 61), (some (59, true)), []⟩,
   S 63 (.pick (.t 59) (.t 62) (xB false)),
   S 64 (.mv (.t 63)),
   ⟨(some 65), .mv (.t 10), (some (64, true)), []⟩,
   S 66 (.pick (.t 64) (.t 65) (xB false)),
   S 0 (.mv (.t 66))])
 (.ret)))))))),
 [.tmp 0], false, true⟩
/- sibyl/sibyllaw11.rest -/
def d_rest : DFn := ⟨2,
 .seq (.ops [S 4 (.mv (xI 0))])
 (.seq (.ops [S 5 (.mv (.t 0)),
   S 6 (.mv (.t 1)),
   S 7 (.bin .rem .none (.t 5) (.t 6)),
   S 8 (.mv (.t 1)),
   S 9 (.bin .add .none (.t 7) (.t 8)),
   S 10 (.mv (.t 1)),
   S 11 (.bin .rem .none (.t 9) (.t 10)),
   S 4 (.mv (.t 11))])
 (.ret)),
 [.tmp 4], false, true⟩
/- sibyl/store.New -/
def d_New : DFn := ⟨1,
 .seq (.ops [S 2 (.mv (.v .nilp))])
 (.seq (.seq (.ops [S 3 (.mv (.t 0)),
   S 4 (.bin .lss .none (.t 3) (xI 1)),
   S 5 (.mv (.t 4)),
   ⟨(some 6), .mv (.t 0), (some (5, false)), []⟩,
   ⟨(some 7), .bin .gtr .none (.t 6) (xI 4096), (some (5, false)), []⟩,
   S 8 (.pick (.t 5) (xB true) (.t 7))])
 (.cond (.t 8)
  (.seq (.ops [S 2 (.mv (.v .nilp))])
  (.ret))
  (.skip)))
 (.seq (.ops [S 9 (.mv (.t 0)),
   S 10 (.mks 9 true 72 [(eI 0), (eB false), (eI 0), (eI 0), (eI 0), (eI 0), (eI 0), (eI 0), (eI 0)] (.t 9) (.t 9)),
   S 11 (.build [(.full []), (eI 0), (eI 0)] [(0, 1, (.t 10))]),
   S 12 (.box true 3 (.t 11)),
   S 2 (.mv (.t 12))])
 (.ret))),
 [.tmp 2], false, false⟩
/- (*sibyl/store.Store).Take -/
def d_Take : DFn := ⟨2,
 .seq (.ops [S 3 (.box true 6 (.t 1)),
   S 4 (.new true [(eI 0), (eI 0)]),
   S 5 (.mv (xB false))])
 (.seq (.seq (.ops [S 8 (.mv (.t 0)),
   S 9 (.bin .eql .ptr (.t 8) (.v .nilp))])
 (.cond (.t 9)
  (.seq (.ops [S 10 (.build [(eI 0), (eI 0)] []),
    E (.st 2 (.t 4) (.t 10)),
    S 5 (.mv (xB false))])
  (.ret))
  (.skip)))
 (.seq (.ops [S 6 (.mv (xI 0))])
 (.seq (.skip)
 (.seq (.block 0 (.loop [0, 3, 4, 6] (.seq (.seq (.ops [S 11 (.mv (.t 6)),
     S 12 (.mv (.t 0)),
     S 13 (.nz (.t 12)),
     S 14 (.fld 0 (.t 13)),
     S 15 (.ld false 1 (.t 14)),
     S 16 (.len 0 (.t 15)),
     S 17 (.bin .lss .none (.t 11) (.t 16))])
   (.cond (.t 17)
    (.skip)
    (.exit 0)))
   (.block 1 (.seq (.seq (.ops [S 18 (.mv (.t 0)),
      S 19 (.nz (.t 18)),
      S 20 (.fld 0 (.t 19)),
      S 21 (.ld false 1 (.t 20)),
      S 22 (.mv (.t 6)),
      S 23 (.ixa 9 (.t 21) (.t 22)),
      S 24 (.fld 1 (.t 23)),
      S 25 (.ld false 1 (.t 24)),
      S 26 (.un .not (.t 25))])
    (.cond (.t 26)
     (.exit 0)
     (.skip)))
    (.ops [S 27 (.mv (.t 6)),
      S 28 (.bin .add .none (.t 27) (xI 1)),
      S 6 (.mv (.t 28))]))))))
 (.seq (.seq (.ops [S 29 (.mv (.t 6)),
   S 30 (.mv (.t 0)),
   S 31 (.nz (.t 30)),
   S 32 (.fld 0 (.t 31)),
   S 33 (.ld false 1 (.t 32)),
   S 34 (.len 0 (.t 33)),
   S 35 (.bin .eql .none (.t 29) (.t 34))])
 (.cond (.t 35)
  (.seq (.ops [S 36 (.build [(eI 0), (eI 0)] []),
    E (.st 2 (.t 4) (.t 36)),
    S 5 (.mv (xB false))])
  (.ret))
  (.skip)))
 (.seq (.ops [S 37 (.mv (.t 0)),
   S 38 (.nz (.t 37)),
   S 39 (.fld 0 (.t 38)),
   S 40 (.ld false 1 (.t 39)),
   S 41 (.mv (.t 6)),
   S 42 (.ixa 9 (.t 40) (.t 41)),
   S 7 (.mv (.t 42))])
 (.seq (.ops [S 43 (.mv (.t 7)),
   S 44 (.mv (.t 7)),
   S 45 (.mv (.t 7)),
   S 46 (.ld true 6 (.t 3)),
   S 47 (.nz (.t 43)),
   S 48 (.fld 1 (.t 47)),
   ⟨none, .st 1 (.t 48) (xB true), none, [(46, .ld true 6 (.t 3), none)]⟩,
   S 49 (.nz (.t 44)),
   S 50 (.fld 2 (.t 49)),
   E (.st 6 (.t 50) (.t 46)),
   S 51 (.nz (.t 45)),
   S 52 (.fld 8 (.t 51)),
   E (.st 1 (.t 52) (xI 1))])
 (.seq (.ops [S 53 (.mv (.t 0)),
   S 54 (.nz (.t 53)),
   S 55 (.fld 1 (.t 54)),
   S 56 (.ld false 1 (.t 55)),
   S 57 (.bin .add .none (.t 56) (xI 1)),
   S 58 (.nz (.t 53)),
   S 59 (.fld 1 (.t 58)),
   E (.st 1 (.t 59) (.t 57))])
 (.seq (.ops [S 60 (.mv (.t 0)),
   S 61 (.nz (.t 60)),
   S 62 (.fld 2 (.t 61)),
   S 63 (.ld false 1 (.t 62)),
   S 64 (.bin .add .none (.t 63) (xI 1)),
   S 65 (.nz (.t 60)),
   S 66 (.fld 2 (.t 65)),
   E (.st 1 (.t 66) (.t 64))])
 (.seq (.ops [S 67 (.mv (.t 6)),
   S 68 (.mv (.t 7)),
   S 69 (.nz (.t 68)),
   S 70 (.fld 0 (.t 69)),
   S 71 (.ld false 1 (.t 70)),
   S 72 (.build [(eI 0), (eI 0)] [(0, 1, (.t 67)), (1, 1, (.t 71))]),
   E (.st 2 (.t 4) (.t 72)),
   S 5 (.mv (xB true))])
 (.ret))))))))))),
 [.cell 4 true 2, .tmp 5], false, false⟩
/- (*sibyl/store.Store).Used -/
def d_Used : DFn := ⟨1,
 .seq (.ops [S 2 (.mv (xI 0))])
 (.seq (.seq (.ops [S 3 (.mv (.t 0)),
   S 4 (.bin .eql .ptr (.t 3) (.v .nilp))])
 (.cond (.t 4)
  (.seq (.ops [S 2 (.mv (xI 0))])
  (.ret))
  (.skip)))
 (.seq (.ops [S 5 (.mv (.t 0)),
   S 6 (.nz (.t 5)),
   S 7 (.fld 1 (.t 6)),
   S 8 (.ld false 1 (.t 7)),
   S 2 (.mv (.t 8))])
 (.ret))),
 [.tmp 2], false, true⟩
/- (*sibyl/store.Store).Free -/
def d_Free : DFn := ⟨2,
 .seq (.ops [S 2 (.box false 1 (.t 0)),
   S 3 (.box true 2 (.t 1)),
   S 4 (.mv (xB false))])
 (.seq (.ops [S 5 (.ld false 1 (.t 2)),
   S 6 (.ld true 2 (.t 3)),
   S 7 (.mkf (.func n_Free1) [] [(.t 2)]),
   S 8 (.call n_with [(.t 5), (.t 6), (.t 7)]),
   S 4 (.mv (.t 8))])
 (.ret)),
 [.tmp 4], false, false⟩
/- (*sibyl/store.Store).Add -/
def d_Add : DFn := ⟨3,
 .seq (.ops [S 3 (.box false 1 (.t 0)),
   S 4 (.box true 2 (.t 1)),
   S 5 (.box false 1 (.t 2)),
   S 6 (.mv (xI 0)),
   S 7 (.mv (xB false))])
 (.seq (.ops [S 8 (.new false [(eI 0)]),
   E (.st 1 (.t 8) (xI 0))])
 (.seq (.ops [S 10 (.ld false 1 (.t 3)),
   S 11 (.ld true 2 (.t 4)),
   S 12 (.mkf (.func n_Add1) [] [(.t 5), (.t 8), (.t 3)]),
   S 13 (.call n_with [(.t 10), (.t 11), (.t 12)]),
   S 9 (.mv (.t 13))])
 (.seq (.ops [S 14 (.ld false 1 (.t 8)),
   S 15 (.mv (.t 9)),
   S 6 (.mv (.t 14)),
   S 7 (.mv (.t 15))])
 (.ret)))),
 [.tmp 6, .tmp 7], false, false⟩
/- (*sibyl/store.Store).Get -/
def d_Get : DFn := ⟨2,
 .seq (.ops [S 3 (.box true 2 (.t 1)),
   S 4 (.new true [(eI 0), (eI 0), (eI 0), (eI 0), (eI 0), (eI 0)]),
   S 5 (.mv (xB false))])
 (.seq (.ops [S 6 (.mv (.t 0)),
   S 7 (.ld true 2 (.t 3)),
   S 8 (.mkf (.func n_Get1) [] [(.t 4)]),
   S 9 (.call n_with [(.t 6), (.t 7), (.t 8)]),
   S 5 (.mv (.t 9))])
 (.seq (.ops [S 10 (.ld true 6 (.t 4)),
   S 11 (.mv (.t 5)),
   E (.st 6 (.t 4) (.t 10)),
   S 5 (.mv (.t 11))])
 (.ret))),
 [.cell 4 true 6, .tmp 5], false, true⟩
/- (*sibyl/store.Store).Count -/
def d_Count : DFn := ⟨2,
 .seq (.ops [S 3 (.box true 2 (.t 1)),
   S 4 (.mv (xI 0))])
 (.seq (.ops [S 5 (.new false [(eI 0)]),
   E (.st 1 (.t 5) (xI 0))])
 (.seq (.ops [S 6 (.mv (.t 0)),
   S 7 (.ld true 2 (.t 3)),
   S 8 (.mkf (.func n_Count1) [] [(.t 5)]),
   S 9 (.call n_with [(.t 6), (.t 7), (.t 8)])])
 (.seq (.ops [S 10 (.ld false 1 (.t 5)),
   S 4 (.mv (.t 10))])
 (.ret)))),
 [.tmp 4], false, true⟩
/- (*sibyl/store.Store).Live -/
def d_Live : DFn := ⟨1,
 .seq (.ops [S 2 (.mv (xI 0))])
 (.seq (.seq (.ops [S 3 (.mv (.t 0)),
   S 4 (.bin .eql .ptr (.t 3) (.v .nilp))])
 (.cond (.t 4)
  (.seq (.ops [S 2 (.mv (xI 0))])
  (.ret))
  (.skip)))
 (.seq (.ops [S 5 (.mv (.t 0)),
   S 6 (.nz (.t 5)),
   S 7 (.fld 2 (.t 6)),
   S 8 (.ld false 1 (.t 7)),
   S 2 (.mv (.t 8))])
 (.ret))),
 [.tmp 2], false, true⟩
/- (*sibyl/sibylref11.Store).Take -/
def d_rTake : DFn := ⟨2,
 .seq (.ops [S 3 (.box true 6 (.t 1)),
   S 4 (.new true [(eI 0), (eI 0)]),
   S 5 (.mv (xB false))])
 (.seq (.seq (.ops [S 6 (.mv (xI 0))])
 (.block 0 (.loop [0, 3, 4, 6] (.seq (.seq (.ops [S 11 (.mv (.t 6)),
     S 12 (.mv (.t 0)),
     S 13 (.nz (.t 12)),
     S 14 (.fld 0 (.t 13)),
     S 15 (.ld false 1 (.t 14)),
     S 16 (.bin .lss .none (.t 11) (.t 15))])
   (.cond (.t 16)
    (.skip)
    (.exit 0)))
   (.seq (.block 1 (.seq (.ops [S 7 (.mv (xI 0))])
    (.seq (.ops [S 8 (.mv (xB true))])
    (.seq (.seq (.ops [S 9 (.mv (xI 0))])
    (.block 2 (.loop [0, 3, 4, 6, 7, 8, 9] (.seq (.seq (.ops [S 19 (.mv (.t 9)),
        S 20 (.mv (.t 0)),
        S 21 (.nz (.t 20)),
        S 22 (.fld 1 (.t 21)),
        S 23 (.ld false 1 (.t 22)),
        S 24 (.len 0 (.t 23)),
        S 25 (.bin .lss .none (.t 19) (.t 24))])
      (.cond (.t 25)
       (.skip)
       (.exit 2)))
      (.seq (.block 3 (.seq (.ops [S 28 (.mv (.t 0)),
         S 29 (.nz (.t 28)),
         S 30 (.fld 1 (.t 29)),
         S 31 (.ld false 1 (.t 30)),
         S 32 (.mv (.t 9)),
         S 33 (.ixa 10 (.t 31) (.t 32)),
         S 34 (.fld 0 (.t 33)),
         S 35 (.fld 0 (.t 34)),
         S 36 (.ld false 1 (.t 35)),
         S 37 (.mv (.t 6)),
         S 38 (.bin .eql .none (.t 36) (.t 37))])
       (.cond (.t 38)
        (.seq (.ops [S 39 (.mv (.t 7)),
          S 40 (.bin .add .none (.t 39) (xI 1)),
          S 7 (.mv (.t 40))])
        (.ops [S 41 (.mv (.t 0)),
          S 42 (.nz (.t 41)),
          S 43 (.fld 1 (.t 42)),
          S 44 (.ld false 1 (.t 43)),
          S 45 (.mv (.t 9)),
          S 46 (.ixa 10 (.t 44) (.t 45)),
          S 47 (.fld 9 (.t 46)),
          S 48 (.ld false 1 (.t 47)),
          S 8 (.mv (.t 48))]))
        (.skip))))
      (.ops [S 26 (.mv (.t 9)),
        S 27 (.bin .add .none (.t 26) (xI 1)),
        S 9 (.mv (.t 27))]))))))
    (.seq (.ops [S 49 (.mv (.t 8))])
    (.cond (.t 49)
     (.seq (.ops [S 50 (.mv (.t 6)),
       S 51 (.mv (.t 7)),
       S 52 (.build [(eI 0), (eI 0)] [(0, 1, (.t 50)), (1, 1, (.t 51))]),
       S 10 (.new true [(eI 0), (eI 0)]),
       E (.st 2 (.t 10) (.t 52))])
     (.seq (.ops [S 53 (.mv (.t 0)),
       S 54 (.mv (.t 0)),
       S 55 (.nz (.t 54)),
       S 56 (.fld 1 (.t 55)),
       S 57 (.ld false 1 (.t 56)),
       S 58 (.ld true 2 (.t 10)),
       S 59 (.ld true 6 (.t 3)),
       S 60 (.build [(eI 0), (eI 0), (eI 0), (eI 0), (eI 0), (eI 0), (eI 0), (eI 0), (eI 0), (eB false)] [(0, 2, (.t 58)), (2, 6, (.t 59)), (8, 1, (xI 1))]),
       S 61 (.lit 10 true [[(eI 0), (eI 0), (eI 0), (eI 0), (eI 0), (eI 0), (eI 0), (eI 0), (eI 0), (eB false)]] [(0, (.t 60))]),
       S 62 (.app 10 true 80 (.t 57) (.t 61)),
       S 63 (.nz (.t 53)),
       S 64 (.fld 1 (.t 63)),
       E (.st 1 (.t 64) (.t 62))])
     (.seq (.ops [S 65 (.ld true 2 (.t 10)),
       E (.st 2 (.t 4) (.t 65)),
       S 5 (.mv (xB true))])
     (.ret))))
     (.skip)))))))
   (.ops [S 17 (.mv (.t 6)),
     S 18 (.bin .add .none (.t 17) (xI 1)),
     S 6 (.mv (.t 18))]))))))
 (.seq (.ops [S 66 (.build [(eI 0), (eI 0)] []),
   E (.st 2 (.t 4) (.t 66)),
   S 5 (.mv (xB false))])
 (.ret))),
 [.cell 4 true 2, .tmp 5], false, false⟩
/- (*sibyl/sibylref11.Store).Free -/
def d_rFree : DFn := ⟨2,
 .seq (.ops [S 3 (.box true 2 (.t 1)),
   S 4 (.mv (xB false))])
 (.seq (.ops [S 6 (.mv (.t 0)),
   S 7 (.ld true 2 (.t 3)),
   S 8 (.call n_rfind [(.t 6), (.t 7)]),
   S 5 (.mv (.t 8))])
 (.seq (.seq (.ops [S 9 (.mv (.t 5)),
   S 10 (.bin .lss .none (.t 9) (xI 0)),
   S 11 (.mv (.t 10)),
   ⟨(some 12), .mv (.t 0), (some (11, false)), []⟩,
   ⟨(some 13), .nz (.t 12), (some (11, false)), []⟩,
   ⟨(some 14), .fld 1 (.t 13), (some (11, false)), []⟩,
   ⟨(some 15), .ld false 1 (.t 14), (some (11, false)), []⟩,
   ⟨(some 16), .mv (.t 5), (some (11, false)), []⟩,
   ⟨(some 17), .ixa 10 (.t 15) (.t 16), (some (11, false)), []⟩,
   ⟨(some 18), .fld 8 (.t 17), (some (11, false)), []⟩,
   ⟨(some 19), .ld false 1 (.t 18), (some (11, false)), []⟩,
   ⟨(some 20), .bin .gtr .none (.t 19) (xI 0), (some (11, false)), []⟩,
   S 21 (.pick (.t 11) (xB true) (.t 20))])
 (.cond (.t 21)
  (.seq (.ops [S 4 (.mv (xB false))])
  (.ret))
  (.skip)))
 (.seq (.ops [S 22 (.mv (.t 0)),
   S 23 (.nz (.t 22)),
   S 24 (.fld 1 (.t 23)),
   S 25 (.ld false 1 (.t 24)),
   S 26 (.mv (.t 5)),
   S 27 (.ixa 10 (.t 25) (.t 26)),
   S 28 (.fld 9 (.t 27)),
   E (.st 1 (.t 28) (xB true))])
 (.seq (.ops [S 4 (.mv (xB true))])
 (.ret))))),
 [.tmp 4], false, false⟩
/- (*sibyl/sibylref11.Store).Add -/
def d_rAdd : DFn := ⟨3,
 .seq (.ops [S 4 (.box true 2 (.t 1)),
   S 6 (.mv (xI 0)),
   S 7 (.mv (xB false))])
 (.seq (.ops [S 9 (.mv (.t 0)),
   S 10 (.ld true 2 (.t 4)),
   S 11 (.call n_rfind [(.t 9), (.t 10)]),
   S 8 (.mv (.t 11))])
 (.seq (.seq (.ops [S 12 (.mv (.t 8)),
   S 13 (.bin .lss .none (.t 12) (xI 0)),
   S 14 (.mv (.t 13)),
   ⟨(some 15), .mv (.t 0), (some (14, false)), []⟩,
   ⟨(some 16), .nz (.t 15), (some (14, false)), []⟩,
   ⟨(some 17), .fld 1 (.t 16), (some (14, false)), []⟩,
   ⟨(some 18), .ld false 1 (.t 17), (some (14, false)), []⟩,
   ⟨(some 19), .mv (.t 8), (some (14, false)), []⟩,
   ⟨(some 20), .ixa 10 (.t 18) (.t 19), (some (14, false)), []⟩,
   ⟨(some 21), .fld 8 (.t 20), (some (14, false)), []⟩,
   ⟨(some 22), .ld false 1 (.t 21), (some (14, false)), []⟩,
   ⟨(some 23), .bin .eql .none (.t 22) (xI 0), (some (14, false)), []⟩,
   S 24 (.pick (.t 14) (xB true) (.t 23)),
   S 25 (.mv (.t 24)),
   ⟨(some 26), .mv (.t 2), (some (25, false)), []⟩,
   ⟨(some 27), .mv (.t 0), (some (25, false)), []⟩,
   ⟨(some 28), .nz (.t 27), (some (25, false)), []⟩,
   ⟨(some 29), .fld 1 (.t 28), (some (25, false)), []⟩,
   ⟨(some 30), .ld false 1 (.t 29), (some (25, false)), []⟩,
   ⟨(some 31), .mv (.t 8), (some (25, false)), []⟩,
   ⟨(some 32), .ixa 10 (.t 30) (.t 31), (some (25, false)), []⟩,
   ⟨(some 33), .fld 8 (.t 32), (some (25, false)), []⟩,
   ⟨(some 34), .ld false 1 (.t 33), (some (25, false)), []⟩,
   ⟨(some 35), .bin .sub .none (xI 0) (.t 34), (some (25, false)), []⟩,
   ⟨(some 36), .bin .lss .none (.t 26) (.t 35), (some (25, false)), []⟩,
   S 37 (.pick (.t 25) (xB true) (.t 36)),
   S 38 (.mv (.t 37)),
   ⟨(some 39), .mv (.t 2), (some (38, false)), []⟩,
   ⟨(some 40), .mv (.t 0), (some (38, false)), []⟩,
   ⟨(some 41), .nz (.t 40), (some (38, false)), []⟩,
   ⟨(some 42), .fld 1 (.t 41), (some (38, false)), []⟩,
   ⟨(some 43), .ld false 1 (.t 42), (some (38, false)), []⟩,
   ⟨(some 44), .mv (.t 8), (some (38, false)), []⟩,
   ⟨(some 45), .ixa 10 (.t 43) (.t 44), (some (38, false)), []⟩,
   ⟨(some 46), .fld 8 (.t 45), (some (38, false)), []⟩,
   ⟨(some 47), .ld false 1 (.t 46), (some (38, false)), []⟩,
   ⟨(some 48), .bin .sub .none (xI 1099511627776) (.t 47), (some (38, false)), []⟩,
   ⟨(some 49), .bin .gtr .none (.t 39) (.t 48), (some (38, false)), []⟩,
   S 50 (.pick (.t 38) (xB true) (.t 49))])
 (.cond (.t 50)
  (.seq (.ops [S 6 (.mv (xI 0)),
    S 7 (.mv (xB false))])
  (.ret))
  (.skip)))
 (.seq (.ops [S 51 (.mv (.t 0)),
   S 52 (.nz (.t 51)),
   S 53 (.fld 1 (.t 52)),
   S 54 (.ld false 1 (.t 53)),
   S 55 (.mv (.t 8)),
   S 56 (.mv (.t 0)),
   S 57 (.nz (.t 56)),
   S 58 (.fld 1 (.t 57)),
   S 59 (.ld false 1 (.t 58)),
   S 60 (.mv (.t 8)),
   S 61 (.ixa 10 (.t 59) (.t 60)),
   S 62 (.fld 8 (.t 61)),
   S 63 (.ld false 1 (.t 62)),
   S 64 (.mv (.t 2)),
   S 65 (.bin .add .none (.t 63) (.t 64)),
   S 66 (.ixa 10 (.t 54) (.t 55)),
   S 67 (.fld 8 (.t 66)),
   E (.st 1 (.t 67) (.t 65))])
 (.seq (.ops [S 68 (.mv (.t 0)),
   S 69 (.nz (.t 68)),
   S 70 (.fld 1 (.t 69)),
   S 71 (.ld false 1 (.t 70)),
   S 72 (.mv (.t 8)),
   S 73 (.ixa 10 (.t 71) (.t 72)),
   S 74 (.fld 8 (.t 73)),
   S 75 (.ld false 1 (.t 74)),
   S 6 (.mv (.t 75)),
   S 7 (.mv (xB true))])
 (.ret))))),
 [.tmp 6, .tmp 7], false, false⟩
/- (*sibyl/sibylref11.Store).Get -/
def d_rGet : DFn := ⟨2,
 .seq (.ops [S 3 (.box true 2 (.t 1)),
   S 4 (.new true [(eI 0), (eI 0), (eI 0), (eI 0), (eI 0), (eI 0)]),
   S 5 (.mv (xB false))])
 (.seq (.ops [S 7 (.mv (.t 0)),
   S 8 (.ld true 2 (.t 3)),
   S 9 (.call n_rfind [(.t 7), (.t 8)]),
   S 6 (.mv (.t 9))])
 (.seq (.seq (.ops [S 10 (.mv (.t 6)),
   S 11 (.bin .lss .none (.t 10) (xI 0))])
 (.cond (.t 11)
  (.seq (.ops [S 12 (.build [(eI 0), (eI 0), (eI 0), (eI 0), (eI 0), (eI 0)] []),
    E (.st 6 (.t 4) (.t 12)),
    S 5 (.mv (xB false))])
  (.ret))
  (.skip)))
 (.seq (.ops [S 13 (.mv (.t 0)),
   S 14 (.nz (.t 13)),
   S 15 (.fld 1 (.t 14)),
   S 16 (.ld false 1 (.t 15)),
   S 17 (.mv (.t 6)),
   S 18 (.ixa 10 (.t 16) (.t 17)),
   S 19 (.fld 2 (.t 18)),
   S 20 (.ld true 6 (.t 19)),
   E (.st 6 (.t 4) (.t 20)),
   S 5 (.mv (xB true))])
 (.ret)))),
 [.cell 4 true 6, .tmp 5], false, true⟩
/- (*sibyl/sibylref11.Store).Count -/
def d_rCount : DFn := ⟨2,
 .seq (.ops [S 3 (.box true 2 (.t 1)),
   S 4 (.mv (xI 0))])
 (.seq (.ops [S 6 (.mv (.t 0)),
   S 7 (.ld true 2 (.t 3)),
   S 8 (.call n_rfind [(.t 6), (.t 7)]),
   S 5 (.mv (.t 8))])
 (.seq (.seq (.ops [S 9 (.mv (.t 5)),
   S 10 (.bin .lss .none (.t 9) (xI 0))])
 (.cond (.t 10)
  (.seq (.ops [S 4 (.mv (xI 0))])
  (.ret))
  (.skip)))
 (.seq (.ops [S 11 (.mv (.t 0)),
   S 12 (.nz (.t 11)),
   S 13 (.fld 1 (.t 12)),
   S 14 (.ld false 1 (.t 13)),
   S 15 (.mv (.t 5)),
   S 16 (.ixa 10 (.t 14) (.t 15)),
   S 17 (.fld 8 (.t 16)),
   S 18 (.ld false 1 (.t 17)),
   S 4 (.mv (.t 18))])
 (.ret)))),
 [.tmp 4], false, true⟩
/- (*sibyl/sibylref11.Store).Used -/
def d_rUsed : DFn := ⟨2,
 .seq (.ops [S 4 (.mv (xI 0))])
 (.seq (.ops [S 5 (.mv (xI 0))])
 (.seq (.seq (.ops [S 6 (.mv (xI 0))])
 (.block 0 (.loop [0, 1, 5, 6] (.seq (.seq (.ops [S 7 (.mv (.t 6)),
     S 8 (.mv (.t 0)),
     S 9 (.nz (.t 8)),
     S 10 (.fld 1 (.t 9)),
     S 11 (.ld false 1 (.t 10)),
     S 12 (.len 0 (.t 11)),
     S 13 (.bin .lss .none (.t 7) (.t 12))])
   (.cond (.t 13)
    (.skip)
    (.exit 0)))
   (.seq (.block 1 (.seq (.ops [S 16 (.mv (.t 0)),
      S 17 (.nz (.t 16)),
      S 18 (.fld 1 (.t 17)),
      S 19 (.ld false 1 (.t 18)),
      S 20 (.mv (.t 6)),
      S 21 (.ixa 10 (.t 19) (.t 20)),
      S 22 (.fld 9 (.t 21)),
      S 23 (.ld false 1 (.t 22)),
      S 24 (.un .not (.t 23)),
      S 25 (.mv (.t 24)),
      ⟨(some 26), .mv (.t 1), (some (25, true)), []⟩,
      ⟨(some 27), .un .not (.t 26), (some (25, true)), []⟩,
      ⟨(some 28), .mv (.t 27), (some (25, true)), []⟩,
      ⟨(some 29), .mv (.t 0), (some (28, false)), []⟩,
      ⟨(some 30), .nz (.t 29), (some (28, false)), []⟩,
      ⟨(some 31), .fld 1 (.t 30), (some (28, false)), []⟩,
      ⟨(some 32), .ld false 1 (.t 31), (some (28, false)), []⟩,
      ⟨(some 33), .mv (.t 6), (some (28, false)), []⟩,
      ⟨(some 34), .ixa 10 (.t 32) (.t 33), (some (28, false)), []⟩,
      ⟨(some 35), .fld 8 (.t 34), (some (28, false)), []⟩,
      ⟨(some 36), .ld false 1 (.t 35), (some (28, false)), []⟩,
      ⟨(some 37), .bin .gtr .none (.t 36) (xI 0), (some (28, false)), []⟩,
      ⟨(some 38), .pick (.t 28) (xB true) (.t 37), (some (25, true)), []⟩,
      S 39 (.pick (.t 25) (.t 38) (xB false))])
    (.cond (.t 39)
     (.ops [S 40 (.mv (.t 5)),
       S 41 (.bin .add .none (.t 40) (xI 1)),
       S 5 (.mv (.t 41))])
     (.skip))))
   (.ops [S 14 (.mv (.t 6)),
     S 15 (.bin .add .none (.t 14) (xI 1)),
     S 6 (.mv (.t 15))]))))))
 (.seq (.ops [S 42 (.mv (.t 5)),
   S 4 (.mv (.t 42))])
 (.ret)))),
 [.tmp 4], false, true⟩
/- (*sibyl/store.Store).with -/
def d_with : DFn := ⟨3,
 .seq (.ops [S 4 (.box true 2 (.t 1)),
   S 6 (.mv (xB false))])
 (.seq (.seq (.ops [S 8 (.mv (.t 0)),
   S 9 (.bin .eql .ptr (.t 8) (.v .nilp)),
   S 10 (.mv (.t 9)),
   ⟨(some 11), .fld 0 (.t 4), (some (10, false)), []⟩,
   ⟨(some 12), .ld false 1 (.t 11), (some (10, false)), []⟩,
   ⟨(some 13), .bin .lss .none (.t 12) (xI 0), (some (10, false)), []⟩,
   S 14 (.pick (.t 10) (xB true) (.t 13)),
   S 15 (.mv (.t 14)),
   ⟨(some 16), .fld 0 (.t 4), (some (15, false)), []⟩,
   ⟨(some 17), .ld false 1 (.t 16), (some (15, false)), []⟩,
   ⟨(some 18), .mv (.t 0), (some (15, false)), []⟩,
   ⟨(some 19), .nz (.t 18), (some (15, false)), []⟩,
   ⟨(some 20), .fld 0 (.t 19), (some (15, false)), []⟩,
   ⟨(some 21), .ld false 1 (.t 20), (some (15, false)), []⟩,
   ⟨(some 22), .len 0 (.t 21), (some (15, false)), []⟩,
   ⟨(some 23), .bin .geq .none (.t 17) (.t 22), (some (15, false)), []⟩,
   S 24 (.pick (.t 15) (xB true) (.t 23))])
 (.cond (.t 24)
  (.seq (.ops [S 6 (.mv (xB false))])
  (.ret))
  (.skip)))
 (.seq (.ops [S 25 (.mv (.t 0)),
   S 26 (.nz (.t 25)),
   S 27 (.fld 0 (.t 26)),
   S 28 (.ld false 1 (.t 27)),
   S 29 (.fld 0 (.t 4)),
   S 30 (.ld false 1 (.t 29)),
   S 31 (.ixa 9 (.t 28) (.t 30)),
   S 7 (.mv (.t 31))])
 (.seq (.ops [S 32 (.mv (.t 7)),
   S 33 (.nz (.t 32)),
   S 34 (.fld 1 (.t 33)),
   S 35 (.ld false 1 (.t 34)),
   S 36 (.mv (.t 35)),
   ⟨(some 37), .mv (.t 7), (some (36, true)), []⟩,
   ⟨(some 38), .nz (.t 37), (some (36, true)), []⟩,
   ⟨(some 39), .fld 0 (.t 38), (some (36, true)), []⟩,
   ⟨(some 40), .ld false 1 (.t 39), (some (36, true)), []⟩,
   ⟨(some 41), .fld 1 (.t 4), (some (36, true)), []⟩,
   ⟨(some 42), .ld false 1 (.t 41), (some (36, true)), []⟩,
   ⟨(some 43), .bin .eql .none (.t 40) (.t 42), (some (36, true)), []⟩,
   S 44 (.pick (.t 36) (.t 43) (xB false)),
   S 45 (.mv (.t 44)),
   ⟨(some 46), .mv (.t 2), (some (45, true)), []⟩,
   ⟨(some 47), .mv (.t 7), (some (45, true)), []⟩,
   ⟨(some 48), .callv (.t 46) [(.t 47)], (some (45, true)), []⟩,
   S 49 (.pick (.t 45) (.t 48) (xB false)),
   S 6 (.mv (.t 49))])
 (.ret)))),
 [.tmp 6], false, false⟩
/- (*sibyl/store.Store).Free$1 -/
def d_Free1 : DFn := ⟨2,
 .seq (.ops [S 3 (.mv (xB false))])
 (.seq (.seq (.ops [S 4 (.mv (.t 0)),
   S 5 (.nz (.t 4)),
   S 6 (.fld 8 (.t 5)),
   S 7 (.ld false 1 (.t 6)),
   S 8 (.bin .gtr .none (.t 7) (xI 0))])
 (.cond (.t 8)
  (.seq (.ops [S 3 (.mv (xB false))])
  (.ret))
  (.skip)))
 (.seq (.ops [S 9 (.mv (.t 0)),
   S 10 (.mv (.t 0)),
   S 11 (.nz (.t 10)),
   S 12 (.fld 0 (.t 11)),
   S 13 (.ld false 1 (.t 12)),
   S 14 (.bin .add .none (.t 13) (xI 1)),
   S 15 (.build [(eI 0), (eB false), (eI 0), (eI 0), (eI 0), (eI 0), (eI 0), (eI 0), (eI 0)] [(0, 1, (.t 14))]),
   S 16 (.nz (.t 9)),
   E (.st 9 (.t 16) (.t 15))])
 (.seq (.ops [S 17 (.ld false 1 (.t 1)),
   S 18 (.nz (.t 17)),
   S 19 (.fld 1 (.t 18)),
   S 20 (.ld false 1 (.t 19)),
   S 21 (.bin .sub .none (.t 20) (xI 1)),
   S 22 (.nz (.t 17)),
   S 23 (.fld 1 (.t 22)),
   E (.st 1 (.t 23) (.t 21))])
 (.seq (.ops [S 3 (.mv (xB true))])
 (.ret))))),
 [.tmp 3], false, false⟩
/- (*sibyl/store.Store).Add$1 -/
def d_Add1 : DFn := ⟨4,
 .seq (.ops [S 5 (.mv (xB false))])
 (.seq (.seq (.ops [S 6 (.mv (.t 0)),
   S 7 (.nz (.t 6)),
   S 8 (.fld 8 (.t 7)),
   S 9 (.ld false 1 (.t 8)),
   S 10 (.bin .eql .none (.t 9) (xI 0)),
   S 11 (.mv (.t 10)),
   ⟨(some 12), .ld false 1 (.t 1), (some (11, false)), []⟩,
   ⟨(some 13), .mv (.t 0), (some (11, false)), []⟩,
   ⟨(some 14), .nz (.t 13), (some (11, false)), []⟩,
   ⟨(some 15), .fld 8 (.t 14), (some (11, false)), []⟩,
   ⟨(some 16), .ld false 1 (.t 15), (some (11, false)), []⟩,
   ⟨(some 17), .un .neg (.t 16), (some (11, false)), []⟩,
   ⟨(some 18), .bin .lss .none (.t 12) (.t 17), (some (11, false)), []⟩,
   S 19 (.pick (.t 11) (xB true) (.t 18)),
   S 20 (.mv (.t 19)),
   ⟨(some 21), .ld false 1 (.t 1), (some (20, false)), []⟩,
   ⟨(some 22), .mv (.t 0), (some (20, false)), []⟩,
   ⟨(some 23), .nz (.t 22), (some (20, false)), []⟩,
   ⟨(some 24), .fld 8 (.t 23), (some (20, false)), []⟩,
   ⟨(some 25), .ld false 1 (.t 24), (some (20, false)), []⟩,
   ⟨(some 26), .bin .sub .none (xI 1099511627776) (.t 25), (some (20, false)), []⟩,
   ⟨(some 27), .bin .gtr .none (.t 21) (.t 26), (some (20, false)), []⟩,
   S 28 (.pick (.t 20) (xB true) (.t 27))])
 (.cond (.t 28)
  (.seq (.ops [S 5 (.mv (xB false))])
  (.ret))
  (.skip)))
 (.seq (.ops [S 29 (.mv (.t 0)),
   S 30 (.nz (.t 29)),
   S 31 (.fld 8 (.t 30)),
   S 32 (.ld false 1 (.t 31)),
   S 33 (.ld false 1 (.t 1)),
   S 34 (.bin .add .none (.t 32) (.t 33)),
   S 35 (.nz (.t 29)),
   S 36 (.fld 8 (.t 35)),
   E (.st 1 (.t 36) (.t 34))])
 (.seq (.ops [S 37 (.mv (.t 0)),
   S 38 (.nz (.t 37)),
   S 39 (.fld 8 (.t 38)),
   S 40 (.ld false 1 (.t 39)),
   E (.st 1 (.t 2) (.t 40))])
 (.seq (.seq (.ops [S 41 (.ld false 1 (.t 2)),
   S 42 (.bin .eql .none (.t 41) (xI 0))])
 (.cond (.t 42)
  (.ops [S 43 (.ld false 1 (.t 3)),
    S 44 (.nz (.t 43)),
    S 45 (.fld 2 (.t 44)),
    S 46 (.ld false 1 (.t 45)),
    S 47 (.bin .sub .none (.t 46) (xI 1)),
    S 48 (.nz (.t 43)),
    S 49 (.fld 2 (.t 48)),
    E (.st 1 (.t 49) (.t 47))])
  (.skip)))
 (.seq (.ops [S 5 (.mv (xB true))])
 (.ret)))))),
 [.tmp 5], false, false⟩
/- (*sibyl/store.Store).Get$1 -/
def d_Get1 : DFn := ⟨2,
 .seq (.ops [S 3 (.mv (xB false))])
 (.seq (.ops [S 4 (.mv (.t 0)),
   S 5 (.nz (.t 4)),
   S 6 (.fld 2 (.t 5)),
   S 7 (.ld true 6 (.t 6)),
   E (.st 6 (.t 1) (.t 7))])
 (.seq (.ops [S 3 (.mv (xB true))])
 (.ret))),
 [.tmp 3], false, false⟩
/- (*sibyl/store.Store).Count$1 -/
def d_Count1 : DFn := ⟨2,
 .seq (.ops [S 3 (.mv (xB false))])
 (.seq (.ops [S 4 (.mv (.t 0)),
   S 5 (.nz (.t 4)),
   S 6 (.fld 8 (.t 5)),
   S 7 (.ld false 1 (.t 6)),
   E (.st 1 (.t 1) (.t 7))])
 (.seq (.ops [S 3 (.mv (xB true))])
 (.ret))),
 [.tmp 3], false, false⟩
/- (*sibyl/sibylref11.Store).find -/
def d_rfind : DFn := ⟨2,
 .seq (.ops [S 3 (.box true 2 (.t 1)),
   S 4 (.mv (xI 0))])
 (.seq (.seq (.ops [S 5 (.mv (xI 0))])
 (.block 0 (.loop [0, 3, 5] (.seq (.seq (.ops [S 6 (.mv (.t 5)),
     S 7 (.mv (.t 0)),
     S 8 (.nz (.t 7)),
     S 9 (.fld 1 (.t 8)),
     S 10 (.ld false 1 (.t 9)),
     S 11 (.len 0 (.t 10)),
     S 12 (.bin .lss .none (.t 6) (.t 11))])
   (.cond (.t 12)
    (.skip)
    (.exit 0)))
   (.seq (.block 1 (.seq (.ops [S 15 (.mv (.t 0)),
      S 16 (.nz (.t 15)),
      S 17 (.fld 1 (.t 16)),
      S 18 (.ld false 1 (.t 17)),
      S 19 (.mv (.t 5)),
      S 20 (.ixa 10 (.t 18) (.t 19)),
      S 21 (.fld 0 (.t 20)),
      S 22 (.ld true 2 (.t 21)),
      S 23 (.ld true 2 (.t 3)),
      S 24 (.bin .eql (.cells [.int, .int]) (.t 22) (.t 23)),
      S 25 (.mv (.t 24)),
      ⟨(some 26), .mv (.t 0), (some (25, true)), []⟩,
      ⟨(some 27), .nz (.t 26), (some (25, true)), []⟩,
      ⟨(some 28), .fld 1 (.t 27), (some (25, true)), []⟩,
      ⟨(some 29), .ld false 1 (.t 28), (some (25, true)), []⟩,
      ⟨(some 30), .mv (.t 5), (some (25, true)), []⟩,
      ⟨(some 31), .ixa 10 (.t 29) (.t 30), (some (25, true)), []⟩,
      ⟨(some 32), .fld 9 (.t 31), (some (25, true)), []⟩,
      ⟨(some 33), .ld false 1 (.t 32), (some (25, true)), []⟩,
      ⟨(some 34), .un .not (.t 33), (some (25, true)), []⟩,
      S 35 (.pick (.t 25) (.t 34) (xB false))])
    (.cond (.t 35)
     (.seq (.ops [S 36 (.mv (.t 5)),
       S 4 (.mv (.t 36))])
     (.ret))
     (.skip))))
   (.ops [S 13 (.mv (.t 5)),
     S 14 (.bin .add .none (.t 13) (xI 1)),
     S 5 (.mv (.t 14))]))))))
 (.seq (.ops [S 4 (.mv (xI (-1)))])
 (.ret))),
 [.tmp 4], false, true⟩

def progList : List (Nat × DFn) := [(n_StoreFull, d_StoreFull), (n_StoreOwn, d_StoreOwn), (n_StoreTurns, d_StoreTurns), (n_StoreCounts, d_StoreCounts), (n_StorePlays, d_StorePlays), (n_StoreNil, d_StoreNil), (n_awake, d_awake), (n_rest, d_rest), (n_New, d_New), (n_Take, d_Take), (n_Used, d_Used), (n_Free, d_Free), (n_Add, d_Add), (n_Get, d_Get), (n_Count, d_Count), (n_Live, d_Live), (n_rTake, d_rTake), (n_rFree, d_rFree), (n_rAdd, d_rAdd), (n_rGet, d_rGet), (n_rCount, d_rCount), (n_rUsed, d_rUsed), (n_with, d_with), (n_Free1, d_Free1), (n_Add1, d_Add1), (n_Get1, d_Get1), (n_Count1, d_Count1), (n_rfind, d_rfind)]
end Dk.A
