/- D's code of the functions, printed by a program of mine (DPrint). -/
import Derived.Test.YtcbigcpdbidlaaaLk5
set_option linter.unusedVariables false
set_option linter.unusedSimpArgs false
set_option linter.unusedSectionVars false
namespace Dk.Q
open Go Dk
abbrev n_qawake : Nat := 31
abbrev n_qNew : Nat := 32
abbrev n_qDo : Nat := 33
abbrev n_config : Nat := 34
abbrev n_command : Nat := 35
abbrev n_qLive : Nat := 38
abbrev n_qWaiting : Nat := 39
abbrev n_qLost : Nat := 40
abbrev n_SameAnswer : Nat := 41
abbrev n_SameRefs : Nat := 43
abbrev n_rHeld : Nat := 44
abbrev n_rWaiting : Nat := 45
abbrev n_rLost : Nat := 46
abbrev n_hit : Nat := 53
abbrev n_publish : Nat := 55
abbrev n_poll : Nat := 56
abbrev n_qrest : Nat := 57
abbrev n_qfind : Nat := 58
abbrev n_rpoll : Nat := 60
abbrev n_publish1 : Nat := 62
abbrev n_Merge : Nat := 63
abbrev n_publish2 : Nat := 64
abbrev n_Merge1 : Nat := 67
abbrev n_Clone : Nat := 68
abbrev n_best : Nat := 69
abbrev n_Same : Nat := 54
abbrev n_Count6 : Nat := 37
abbrev n_qHeld : Nat := 36
abbrev n_Compare6 : Nat := 61
abbrev n_row6 : Nat := 66
abbrev n_QueueDoes : Nat := 13
abbrev n_rDo : Nat := 42
abbrev n_rpublish : Nat := 59
abbrev n_merged : Nat := 65
@[reducible] instance globs : Globs := ⟨fun _ => none⟩
/- sibyl/sibyllaw18.awake -/
def d_qawake : DFn := ⟨0,
 .seq (.ops [S 0 (.mv (xB false))])
 (.seq (.ops [S 13 (.build [(eI 0), (eI 0), (eI 0), (eI 0), (eI 0), (eI 0), (eI 0)] [(3, 1, (xI 2)), (5, 1, (xI 1))]),
   S 14 (.call n_qNew [(.t 13)]),
   S 1 (.mv (.t 14))])
 (.seq (.ops [S 16 (.mv (.t 1)),
   S 17 (.build [(eI 0), (eI 0), (eI 0), (eI 0), (eI 0), (eI 0), (eI 0), (eI 0), (eI 0), (eI 0), (eI 0), (.full []), (eI 0), (eB false)] [(0, 1, (xI 2))]),
   S 18 (.call n_qDo [(.t 16), (xI 1), (.t 17), (.v (.full []))]),
   S 15 (.mv (.t 18)),
   S 19 (.ext (.t 15) 0),
   S 20 (.ext (.t 15) 1),
   S 2 (.new true [(eI 0), (eI 0), (.full [])]),
   E (.st 3 (.t 2) (.t 19)),
   S 3 (.mv (.t 20))])
 (.seq (.ops [S 22 (.mv (.t 1)),
   S 23 (.build [(eI 0), (eI 0)] [(0, 1, (xI 9))]),
   S 24 (.build [(eI 0), (eI 0), (eI 0), (eI 0), (eI 0), (eI 0), (eI 0), (eI 0), (eI 0), (eI 0), (eI 0), (.full []), (eI 0), (eB false)] [(0, 1, (xI 1)), (9, 2, (.t 23))]),
   S 25 (.call n_hit [(xI 1), (xI 5)]),
   S 26 (.call n_hit [(xI 1), (xI 6)]),
   S 27 (.lit 3 true [[(eI 0), (.full []), (.full [])], [(eI 0), (.full []), (.full [])]] [(0, (.t 25)), (1, (.t 26))]),
   S 28 (.build [(.full []), (.full []), (.full []), (.full [])] [(0, 1, (.t 27))]),
   S 29 (.lit 4 true [[(.full []), (.full []), (.full []), (.full [])]] [(0, (.t 28))]),
   S 30 (.call n_qDo [(.t 22), (xI 2), (.t 24), (.t 29)]),
   S 21 (.mv (.t 30)),
   S 31 (.ext (.t 21) 0),
   S 32 (.ext (.t 21) 1),
   S 4 (.new true [(eI 0), (eI 0), (.full [])]),
   E (.st 3 (.t 4) (.t 31)),
   S 5 (.mv (.t 32))])
 (.seq (.ops [S 34 (.mv (.t 1)),
   S 35 (.build [(eI 0), (eI 0), (eI 0), (eI 0), (eI 0), (eI 0), (eI 0), (eI 0), (eI 0), (eI 0), (eI 0), (.full []), (eI 0), (eB false)] [(0, 1, (xI 4)), (1, 1, (xI 1)), (2, 1, (xI 5))]),
   S 36 (.call n_qDo [(.t 34), (xI 3), (.t 35), (.v (.full []))]),
   S 33 (.mv (.t 36)),
   S 37 (.ext (.t 33) 0),
   S 38 (.ext (.t 33) 1),
   S 6 (.new true [(eI 0), (eI 0), (.full [])]),
   E (.st 3 (.t 6) (.t 37)),
   S 7 (.mv (.t 38))])
 (.seq (.ops [S 40 (.mv (.t 1)),
   S 41 (.build [(eI 0), (eI 0), (eI 0), (eI 0), (eI 0), (eI 0), (eI 0), (eI 0), (eI 0), (eI 0), (eI 0), (.full []), (eI 0), (eB false)] [(0, 1, (xI 4)), (1, 1, (xI 1)), (2, 1, (xI 5))]),
   S 42 (.call n_qDo [(.t 40), (xI 4), (.t 41), (.v (.full []))]),
   S 39 (.mv (.t 42)),
   S 43 (.ext (.t 39) 0),
   S 44 (.ext (.t 39) 1),
   S 8 (.new true [(eI 0), (eI 0), (.full [])]),
   E (.st 3 (.t 8) (.t 43)),
   S 9 (.mv (.t 44))])
 (.seq (.ops [S 45 (.mv (.t 5)),
   S 46 (.build [(eI 0), (eI 0)] [(0, 1, (xI 6))]),
   S 47 (.build [(eI 0), (eI 0)] [(0, 1, (xI 9))]),
   S 48 (.lit 2 true [[(eI 0), (eI 0)], [(eI 0), (eI 0)]] [(0, (.t 46)), (1, (.t 47))]),
   S 49 (.call n_SameRefs [(.t 45), (.t 48)]),
   S 10 (.mv (.t 49))])
 (.seq (.ops [S 50 (.mv (.t 7)),
   S 51 (.build [(eI 0), (eI 0)] [(0, 1, (xI 5))]),
   S 52 (.lit 2 true [[(eI 0), (eI 0)]] [(0, (.t 51))]),
   S 53 (.call n_SameRefs [(.t 50), (.t 52)]),
   S 11 (.mv (.t 53))])
 (.seq (.ops [S 54 (.fld 2 (.t 6)),
   S 55 (.ld false 1 (.t 54)),
   S 56 (.lit 1 false [[(eI 0)]] [(0, (xI 5))]),
   S 57 (.lit 1 false [[(.full [])]] [(0, (.t 56))]),
   S 58 (.lit 1 false [[(.full [])]] [(0, (.t 57))]),
   S 59 (.call n_Same [(.t 55), (.t 58)]),
   S 12 (.mv (.t 59))])
 (.seq (.ops [S 60 (.fld 1 (.t 2)),
   S 61 (.ld false 1 (.t 60)),
   S 62 (.bin .eql .none (.t 61) (xI 1)),
   S 63 (.mv (.t 62)),
   ⟨(some 64), .mv (.t 10), (some (63, true)), []⟩,
   S 65 (.pick (.t 63) (.t 64) (xB false)),
   S 66 (.mv (.t 65)),
   ⟨(some 67), .mv (.t 11), (some (66, true)), []⟩,
   S 68 (.pick (.t 66) (.t 67) (xB false)),
   S 69 (.mv (.t 68)),
   ⟨(some 70), .mv (.t 12), (some (69, true)), []⟩,
   S 71 (.pick (.t 69) (.t 70) (xB false)),
   S 72 (.mv (.t 71)),
   ⟨(some 73), .fld 0 (.t 8), (some (72, true)), []⟩,
   ⟨(some 74), .ld false 1 (.t 73), (some (72, true)), []⟩,
   ⟨(some 75), .bin .eql .none (.t 74) (xI 20), (some (72, true)), []⟩,
   S 76 (.pick (.t 72) (.t 75) (xB false)),
   S 0 (.mv (.t 76))])
 (.ret)))))))))),
 [.tmp 0], false, true, false⟩
/- sibyl/queue.New -/
def d_qNew : DFn := ⟨1,
 .seq (.ops [S 1 (.box true 7 (.t 0)),
   S 2 (.mv (.v .nilp))])
 (.seq (.seq (.ops [S 3 (.fld 3 (.t 1)),
   S 4 (.ld false 1 (.t 3)),
   S 5 (.bin .lss .none (.t 4) (xI 1)),
   S 6 (.mv (.t 5)),
   ⟨(some 7), .fld 3 (.t 1), (some (6, false)), []⟩,
   ⟨(some 8), .ld false 1 (.t 7), (some (6, false)), []⟩,
   ⟨(some 9), .bin .gtr .none (.t 8) (xI 4096), (some (6, false)), []⟩,
   S 10 (.pick (.t 6) (xB true) (.t 9)),
   S 11 (.mv (.t 10)),
   ⟨(some 12), .fld 5 (.t 1), (some (11, false)), []⟩,
   ⟨(some 13), .ld false 1 (.t 12), (some (11, false)), []⟩,
   ⟨(some 14), .bin .lss .none (.t 13) (xI 1), (some (11, false)), []⟩,
   S 15 (.pick (.t 11) (xB true) (.t 14)),
   S 16 (.mv (.t 15)),
   ⟨(some 17), .fld 5 (.t 1), (some (16, false)), []⟩,
   ⟨(some 18), .ld false 1 (.t 17), (some (16, false)), []⟩,
   ⟨(some 19), .bin .gtr .none (.t 18) (xI 4096), (some (16, false)), []⟩,
   S 20 (.pick (.t 16) (xB true) (.t 19))])
 (.cond (.t 20)
  (.seq (.ops [S 2 (.mv (.v .nilp))])
  (.ret))
  (.skip)))
 (.seq (.ops [S 21 (.ld true 7 (.t 1)),
   S 22 (.mkmap),
   S 23 (.build [(eI 0), (eI 0), (eI 0), (eI 0), (eI 0), (eI 0), (eI 0), .nilmap] [(0, 7, (.t 21)), (7, 1, (.t 22))]),
   S 24 (.box true 8 (.t 23)),
   S 2 (.mv (.t 24))])
 (.ret))),
 [.tmp 2], false, false, false⟩
/- (*sibyl/queue.Desk).Do -/
def d_qDo : DFn := ⟨4,
 .seq (.ops [S 6 (.box true 14 (.t 2)),
   S 8 (.new true [(eI 0), (eI 0), (.full [])]),
   S 9 (.nils 2 true)])
 (.seq (.seq (.ops [S 14 (.mv (.t 0)),
   S 15 (.bin .eql .ptr (.t 14) (.v .nilp))])
 (.cond (.t 15)
  (.seq (.ops [S 16 (.build [(eI 0), (eI 0), (.full [])] [(0, 1, (xI 1))]),
    E (.st 3 (.t 8) (.t 16)),
    S 9 (.nils 2 true)])
  (.ret))
  (.skip)))
 (.seq (.seq (.ops [S 17 (.fld 0 (.t 6)),
   S 18 (.ld false 1 (.t 17))])
 (.block 0 (.seq (.ops [S 20 (.bin .eql .none (.t 18) (xI 2)),
    S 19 (.mv (.t 20))])
  (.cond (.t 19)
   (.seq (.seq (.ops [S 21 (.mv (.t 0)),
     S 22 (.nz (.t 21)),
     S 23 (.fld 7 (.t 22)),
     S 24 (.ld false 1 (.t 23)),
     S 25 (.len 2 (.t 24)),
     S 26 (.mv (.t 0)),
     S 27 (.nz (.t 26)),
     S 28 (.fld 0 (.t 27)),
     S 29 (.fld 3 (.t 28)),
     S 30 (.ld false 1 (.t 29)),
     S 31 (.bin .geq .none (.t 25) (.t 30))])
   (.cond (.t 31)
    (.seq (.ops [S 32 (.build [(eI 0), (eI 0), (.full [])] [(0, 1, (xI 16))]),
      E (.st 3 (.t 8) (.t 32)),
      S 9 (.nils 2 true)])
    (.ret))
    (.skip)))
   (.seq (.ops [S 33 (.mv (.t 0)),
     S 34 (.nz (.t 33)),
     S 35 (.fld 7 (.t 34)),
     S 36 (.ld false 1 (.t 35)),
     S 37 (.mv (.t 1)),
     S 38 (.build [(.full []), (eB false)] []),
     S 39 (.box true 2 (.t 38)),
     E (.upd .int (.t 36) (.t 37) (.t 39))])
   (.seq (.ops [S 40 (.mv (.t 1)),
     S 41 (.build [(eI 0), (eI 0), (.full [])] [(1, 1, (.t 40))]),
     E (.st 3 (.t 8) (.t 41)),
     S 9 (.nils 2 true)])
   (.ret))))
   (.seq (.ops [S 43 (.bin .eql .none (.t 18) (xI 3)),
     S 42 (.mv (.t 43))])
   (.cond (.t 42)
    (.seq (.ops [S 44 (.mv (.t 0)),
      S 45 (.nz (.t 44)),
      S 46 (.fld 7 (.t 45)),
      S 47 (.ld false 1 (.t 46)),
      S 48 (.fld 1 (.t 6)),
      S 49 (.ld false 1 (.t 48)),
      S 50 (.look .int .nilp false (.t 47) (.t 49)),
      S 10 (.mv (.t 50))])
    (.seq (.seq (.ops [S 51 (.mv (.t 10)),
      S 52 (.bin .eql .ptr (.t 51) (.v .nilp))])
    (.cond (.t 52)
     (.seq (.ops [S 53 (.build [(eI 0), (eI 0), (.full [])] [(0, 1, (xI 15))]),
       E (.st 3 (.t 8) (.t 53)),
       S 9 (.nils 2 true)])
     (.ret))
     (.skip)))
    (.seq (.ops [S 11 (.nils 2 true)])
    (.seq (.seq (.ops [S 54 (.mv (.t 10)),
      S 55 (.nz (.t 54)),
      S 56 (.fld 0 (.t 55)),
      S 57 (.ld false 1 (.t 56)),
      S 58 (.len 0 (.t 57)),
      S 59 (.mv (xI 0))])
    (.block 1 (.loop [0, 6, 8, 11, 57, 58, 59] (.seq (.ops [S 60 (.bin .lss .none (.t 59) (.t 58))])
      (.seq (.cond (.t 60)
       (.skip)
       (.exit 1))
      (.seq (.block 2 (.seq (.ops [S 61 (.ixa 2 (.t 57) (.t 59)),
         S 62 (.ld true 2 (.t 61)),
         S 13 (.new true [(.full []), (.full [])]),
         E (.st 2 (.t 13) (.t 62))])
       (.ops [S 63 (.mv (.t 11)),
         S 64 (.fld 1 (.t 13)),
         S 65 (.ld false 1 (.t 64)),
         S 66 (.app 2 true 16 (.t 63) (.t 65)),
         S 11 (.mv (.t 66))])))
      (.ops [S 67 (.bin .add .none (.t 59) (xI 1)),
        S 59 (.mv (.t 67))])))))))
    (.seq (.ops [S 68 (.mv (.t 0)),
      S 69 (.nz (.t 68)),
      S 70 (.fld 7 (.t 69)),
      S 71 (.ld false 1 (.t 70)),
      S 72 (.fld 1 (.t 6)),
      S 73 (.ld false 1 (.t 72)),
      E (.del .int (.t 71) (.t 73))])
    (.seq (.ops [S 74 (.build [(eI 0), (eI 0), (.full [])] []),
      S 75 (.mv (.t 11)),
      E (.st 3 (.t 8) (.t 74)),
      S 9 (.mv (.t 75))])
    (.ret)))))))
    (.seq (.ops [S 77 (.bin .eql .none (.t 18) (xI 1)),
      S 76 (.mv (.t 77))])
    (.cond (.t 76)
     (.seq (.ops [S 78 (.mv (.t 1)),
       S 79 (.build [(eI 0), (eI 0), (.full [])] [(1, 1, (.t 78))]),
       S 80 (.mv (.t 0)),
       S 81 (.ld true 14 (.t 6)),
       S 82 (.mv (.t 3)),
       S 83 (.call n_publish [(.t 80), (.t 81), (.t 82)]),
       E (.st 3 (.t 8) (.t 79)),
       S 9 (.mv (.t 83))])
     (.ret))
     (.seq (.ops [S 85 (.bin .eql .none (.t 18) (xI 4)),
       S 84 (.mv (.t 85))])
     (.cond (.t 84)
      (.seq (.ops [S 86 (.mv (.t 0)),
        S 87 (.ld true 14 (.t 6)),
        S 88 (.call n_poll [(.t 86), (.t 87)]),
        S 89 (.ext (.t 88) 0),
        S 90 (.ext (.t 88) 1),
        E (.st 3 (.t 8) (.t 89)),
        S 9 (.mv (.t 90))])
      (.ret))
      (.seq (.ops [S 92 (.bin .eql .none (.t 18) (xI 5)),
        S 91 (.mv (.t 92))])
      (.cond (.t 91)
       (.seq (.ops [S 93 (.mv (.t 1)),
         S 94 (.build [(eI 0), (eI 0), (.full [])] [(1, 1, (.t 93))]),
         E (.st 3 (.t 8) (.t 94)),
         S 9 (.nils 2 true)])
       (.ret))
       (.skip)))))))))))))
 (.seq (.ops [S 95 (.build [(eI 0), (eI 0), (.full [])] [(0, 1, (xI 1))]),
   E (.st 3 (.t 8) (.t 95)),
   S 9 (.nils 2 true)])
 (.ret)))),
 [.cell 8 true 3, .tmp 9], false, false, true⟩
/- sibyl/sibyllaw18.config -/
def d_config : DFn := ⟨1,
 .seq (.ops [S 1 (.box true 2 (.t 0)),
   S 2 (.new true [(eI 0), (eI 0), (eI 0), (eI 0), (eI 0), (eI 0), (eI 0)])])
 (.seq (.ops [S 3 (.ixp 2 1 (.t 1) (xI 0)),
   S 4 (.ld false 1 (.t 3)),
   S 7 (.ixp 2 1 (.t 1) (xI 1)),
   S 8 (.ld false 1 (.t 7)),
   ⟨(some 5), .call n_qrest [(.t 4), (xI 4)], none, [(8, .ld false 1 (.t 7), none)]⟩,
   S 6 (.bin .add .none (xI 1) (.t 5)),
   S 9 (.call n_qrest [(.t 8), (xI 6)]),
   S 10 (.bin .add .none (xI 1) (.t 9)),
   S 11 (.build [(eI 0), (eI 0), (eI 0), (eI 0), (eI 0), (eI 0), (eI 0)] [(3, 1, (.t 6)), (5, 1, (.t 10))]),
   E (.st 7 (.t 2) (.t 11))])
 (.ret)),
 [.cell 2 true 7], false, true, false⟩
/- (sibyl/sibyllaw18.Act).command -/
def d_command : DFn := ⟨2,
 .seq (.ops [S 2 (.box true 6 (.t 0)),
   S 4 (.new true [(eI 0), (eI 0), (eI 0), (eI 0), (eI 0), (eI 0), (eI 0), (eI 0), (eI 0), (eI 0), (eI 0), (.full []), (eI 0), (eB false)]),
   S 5 (.nils 4 true)])
 (.seq (.ops [S 14 (.fld 1 (.t 2)),
   S 15 (.ld false 1 (.t 14)),
   S 16 (.call n_qrest [(.t 15), (xI 12)]),
   S 6 (.mv (.t 16))])
 (.seq (.seq (.ops [S 17 (.fld 0 (.t 2)),
   S 18 (.ld false 1 (.t 17)),
   S 19 (.call n_qrest [(.t 18), (xI 8)])])
 (.block 0 (.seq (.ops [S 21 (.bin .eql .none (.t 19) (xI 0)),
    S 20 (.mv (.t 21))])
  (.cond (.t 20)
   (.seq (.ops [S 22 (.build [(eI 0), (eI 0), (eI 0), (eI 0), (eI 0), (eI 0), (eI 0), (eI 0), (eI 0), (eI 0), (eI 0), (.full []), (eI 0), (eB false)] [(0, 1, (xI 2))]),
     E (.st 14 (.t 4) (.t 22)),
     S 5 (.nils 4 true)])
   (.ret))
   (.seq (.ops [S 24 (.bin .eql .none (.t 19) (xI 1)),
     S 23 (.mv (.t 24))])
   (.cond (.t 23)
    (.seq (.ops [S 25 (.mv (.t 6)),
      S 26 (.build [(eI 0), (eI 0), (eI 0), (eI 0), (eI 0), (eI 0), (eI 0), (eI 0), (eI 0), (eI 0), (eI 0), (.full []), (eI 0), (eB false)] [(0, 1, (xI 3)), (1, 1, (.t 25))]),
      E (.st 14 (.t 4) (.t 26)),
      S 5 (.nils 4 true)])
    (.ret))
    (.seq (.seq (.ops [S 28 (.bin .eql .none (.t 19) (xI 2)),
      S 27 (.mv (.t 28))])
    (.cond (.t 27)
     (.skip)
     (.ops [S 29 (.bin .eql .none (.t 19) (xI 3)),
       S 27 (.mv (.t 29))])))
    (.cond (.t 27)
     (.seq (.ops [S 30 (.mv (.t 6)),
       S 31 (.fld 2 (.t 2)),
       S 32 (.ld false 1 (.t 31)),
       S 33 (.call n_qrest [(.t 32), (xI 5)]),
       S 34 (.bin .sub .none (.t 33) (xI 1)),
       S 35 (.build [(eI 0), (eI 0), (eI 0), (eI 0), (eI 0), (eI 0), (eI 0), (eI 0), (eI 0), (eI 0), (eI 0), (.full []), (eI 0), (eB false)] [(0, 1, (xI 4)), (1, 1, (.t 30)), (2, 1, (.t 34))]),
       E (.st 14 (.t 4) (.t 35)),
       S 5 (.nils 4 true)])
     (.ret))
     (.seq (.ops [S 37 (.bin .eql .none (.t 19) (xI 4)),
       S 36 (.mv (.t 37))])
     (.cond (.t 36)
      (.seq (.ops [S 38 (.build [(eI 0), (eI 0), (eI 0), (eI 0), (eI 0), (eI 0), (eI 0), (eI 0), (eI 0), (eI 0), (eI 0), (.full []), (eI 0), (eB false)] [(0, 1, (xI 5))]),
        E (.st 14 (.t 4) (.t 38)),
        S 5 (.nils 4 true)])
      (.ret))
      (.seq (.ops [S 40 (.bin .eql .none (.t 19) (xI 5)),
        S 39 (.mv (.t 40))])
      (.cond (.t 39)
       (.seq (.ops [S 41 (.fld 2 (.t 2)),
         S 42 (.ld false 1 (.t 41)),
         S 43 (.call n_qrest [(.t 42), (xI 9)]),
         S 44 (.bin .add .none (xI 6) (.t 43)),
         S 45 (.build [(eI 0), (eI 0), (eI 0), (eI 0), (eI 0), (eI 0), (eI 0), (eI 0), (eI 0), (eI 0), (eI 0), (.full []), (eI 0), (eB false)] [(0, 1, (.t 44))]),
         E (.st 14 (.t 4) (.t 45)),
         S 5 (.nils 4 true)])
       (.ret))
       (.skip)))))))))))))
 (.seq (.ops [S 46 (.mks 4 true 96 [(.full []), (.full []), (.full []), (.full [])] (xI 3) (xI 3)),
   S 7 (.mv (.t 46))])
 (.seq (.seq (.ops [S 8 (.mv (xI 0))])
 (.block 1 (.loop [1, 2, 4, 7, 8] (.seq (.seq (.ops [S 47 (.mv (.t 8)),
     S 48 (.fld 3 (.t 2)),
     S 49 (.ld false 1 (.t 48)),
     S 50 (.len 0 (.t 49)),
     S 51 (.bin .lss .none (.t 47) (.t 50)),
     S 52 (.mv (.t 51)),
     ⟨(some 53), .mv (.t 8), (some (52, true)), []⟩,
     ⟨(some 54), .bin .lss .none (.t 53) (xI 6), (some (52, true)), []⟩,
     S 55 (.pick (.t 52) (.t 54) (xB false))])
   (.cond (.t 55)
    (.skip)
    (.exit 1)))
   (.seq (.block 2 (.seq (.ops [S 58 (.fld 5 (.t 2)),
      S 59 (.ld false 1 (.t 58)),
      S 60 (.mv (.t 8)),
      S 61 (.bin .add .none (.t 59) (.t 60)),
      S 62 (.call n_qrest [(.t 61), (xI 3)]),
      S 9 (.mv (.t 62))])
    (.seq (.ops [S 63 (.fld 3 (.t 2)),
      S 64 (.ld false 1 (.t 63)),
      S 65 (.mv (.t 8)),
      S 66 (.ixa 1 (.t 64) (.t 65)),
      S 67 (.ld false 1 (.t 66)),
      S 68 (.call n_qrest [(.t 67), (xI 12)]),
      S 69 (.mv (.t 1)),
      S 70 (.bin .mul .none (xI 10) (.t 69)),
      S 71 (.mv (.t 8)),
      S 72 (.bin .add .none (.t 70) (.t 71)),
      S 73 (.call n_hit [(.t 68), (.t 72)]),
      S 10 (.new true [(eI 0), (.full []), (.full [])]),
      E (.st 3 (.t 10) (.t 73))])
    (.seq (.seq (.ops [S 74 (.mv (.t 8)),
      S 75 (.bin .and .none (.t 74) (xI 1)),
      S 76 (.bin .eql .none (.t 75) (xI 1))])
    (.cond (.t 76)
     (.seq (.ops [S 77 (.fld 1 (.t 10)),
       S 78 (.fld 0 (.t 77)),
       S 79 (.ld false 1 (.t 78)),
       S 80 (.lit 1 false [[(eI 0)]] [(0, (xI 1))]),
       S 81 (.lit 1 false [[(.full [])]] [(0, (.t 80))]),
       S 82 (.app 1 false 24 (.t 79) (.t 81)),
       S 83 (.fld 1 (.t 10)),
       S 84 (.fld 0 (.t 83)),
       E (.st 1 (.t 84) (.t 82))])
     (.ops [S 85 (.fld 1 (.t 10)),
       S 86 (.fld 1 (.t 85)),
       S 87 (.ld false 1 (.t 86)),
       S 88 (.mv (.t 1)),
       S 89 (.build [(eI 0), (eI 0)] [(0, 1, (xI 1)), (1, 1, (.t 88))]),
       S 90 (.lit 2 true [[(eI 0), (eI 0)]] [(0, (.t 89))]),
       S 91 (.app 2 true 16 (.t 87) (.t 90)),
       S 92 (.fld 1 (.t 10)),
       S 93 (.fld 1 (.t 92)),
       E (.st 1 (.t 93) (.t 91))]))
     (.skip)))
    (.seq (.ops [S 94 (.mv (.t 7)),
      S 95 (.mv (.t 9)),
      S 96 (.ixa 4 (.t 94) (.t 95)),
      S 97 (.fld 0 (.t 96)),
      S 98 (.ld false 1 (.t 97)),
      S 99 (.len 0 (.t 98)),
      S 11 (.mv (.t 99))])
    (.seq (.block 3 (.loop [1, 2, 4, 7, 8, 9, 10, 11] (.seq (.seq (.ops [S 100 (.mv (.t 11)),
        S 101 (.bin .gtr .none (.t 100) (xI 0)),
        S 102 (.mv (.t 101)),
        ⟨(some 103), .mv (.t 7), (some (102, true)), []⟩,
        ⟨(some 104), .mv (.t 9), (some (102, true)), []⟩,
        ⟨(some 105), .ixa 4 (.t 103) (.t 104), (some (102, true)), []⟩,
        ⟨(some 106), .fld 0 (.t 105), (some (102, true)), []⟩,
        ⟨(some 107), .ld false 1 (.t 106), (some (102, true)), []⟩,
        ⟨(some 108), .mv (.t 11), (some (102, true)), []⟩,
        ⟨(some 109), .bin .sub .none (.t 108) (xI 1), (some (102, true)), []⟩,
        ⟨(some 110), .ixa 3 (.t 107) (.t 109), (some (102, true)), []⟩,
        ⟨(some 111), .fld 0 (.t 110), (some (102, true)), []⟩,
        ⟨(some 112), .ld false 1 (.t 111), (some (102, true)), []⟩,
        ⟨(some 113), .fld 0 (.t 10), (some (102, true)), []⟩,
        ⟨(some 114), .ld false 1 (.t 113), (some (102, true)), []⟩,
        ⟨(some 115), .bin .gtr .none (.t 112) (.t 114), (some (102, true)), []⟩,
        S 116 (.pick (.t 102) (.t 115) (xB false))])
      (.cond (.t 116)
       (.skip)
       (.exit 3)))
      (.block 4 (.ops [S 117 (.mv (.t 11)),
         S 118 (.bin .sub .none (.t 117) (xI 1)),
         S 11 (.mv (.t 118))])))))
    (.seq (.ops [S 119 (.lit 3 true [] []),
      S 120 (.mv (.t 7)),
      S 121 (.mv (.t 9)),
      S 122 (.ixa 4 (.t 120) (.t 121)),
      S 123 (.fld 0 (.t 122)),
      S 124 (.ld false 1 (.t 123)),
      S 125 (.mv (.t 11)),
      S 126 (.slc 3 (.t 124) (some (.t 125)) none none),
      S 127 (.app 3 true 56 (.t 119) (.t 126)),
      S 12 (.mv (.t 127))])
    (.ops [S 128 (.mv (.t 7)),
      S 129 (.mv (.t 9)),
      S 130 (.mv (.t 7)),
      S 131 (.mv (.t 9)),
      S 132 (.ixa 4 (.t 130) (.t 131)),
      S 133 (.fld 0 (.t 132)),
      S 134 (.ld false 1 (.t 133)),
      S 135 (.mv (.t 11)),
      S 136 (.mv (.t 11)),
      S 137 (.slc 3 (.t 134) none (some (.t 135)) (some (.t 136))),
      S 138 (.ld true 3 (.t 10)),
      S 139 (.lit 3 true [[(eI 0), (.full []), (.full [])]] [(0, (.t 138))]),
      S 141 (.mv (.t 12)),
      S 140 (.app 3 true 56 (.t 137) (.t 139)),
      S 142 (.app 3 true 56 (.t 140) (.t 141)),
      S 143 (.ixa 4 (.t 128) (.t 129)),
      S 144 (.fld 0 (.t 143)),
      E (.st 1 (.t 144) (.t 142))]))))))))
   (.ops [S 56 (.mv (.t 8)),
     S 57 (.bin .add .none (.t 56) (xI 1)),
     S 8 (.mv (.t 57))]))))))
 (.seq (.seq (.ops [S 13 (.mv (xI 0))])
 (.block 5 (.loop [1, 2, 4, 7, 13] (.seq (.seq (.ops [S 145 (.mv (.t 13)),
     S 146 (.fld 4 (.t 2)),
     S 147 (.ld false 1 (.t 146)),
     S 148 (.len 0 (.t 147)),
     S 149 (.bin .lss .none (.t 145) (.t 148)),
     S 150 (.mv (.t 149)),
     ⟨(some 151), .mv (.t 13), (some (150, true)), []⟩,
     ⟨(some 152), .bin .lss .none (.t 151) (xI 2), (some (150, true)), []⟩,
     S 153 (.pick (.t 150) (.t 152) (xB false))])
   (.cond (.t 153)
    (.skip)
    (.exit 5)))
   (.seq (.block 6 (.ops [S 156 (.mv (.t 7)),
      S 157 (.mv (.t 13)),
      S 158 (.mv (.t 7)),
      S 159 (.mv (.t 13)),
      S 160 (.ixa 4 (.t 158) (.t 159)),
      S 161 (.fld 1 (.t 160)),
      S 162 (.ld false 1 (.t 161)),
      S 163 (.fld 4 (.t 2)),
      S 164 (.ld false 1 (.t 163)),
      S 165 (.mv (.t 13)),
      S 166 (.ixa 1 (.t 164) (.t 165)),
      S 167 (.ld false 1 (.t 166)),
      ⟨(some 168), .call n_qrest [(.t 167), (xI 12)], none, [(162, .ld false 1 (.t 161), none)]⟩,
      S 169 (.lit 1 false [[(eI 0)]] [(0, (.t 168))]),
      S 170 (.app 1 false 8 (.t 162) (.t 169)),
      S 171 (.ixa 4 (.t 156) (.t 157)),
      S 172 (.fld 1 (.t 171)),
      E (.st 1 (.t 172) (.t 170))]))
   (.ops [S 154 (.mv (.t 13)),
     S 155 (.bin .add .none (.t 154) (xI 1)),
     S 13 (.mv (.t 155))]))))))
 (.seq (.ops [S 173 (.mv (.t 1)),
   S 174 (.build [(eI 0), (eI 0)] [(0, 1, (.t 173)), (1, 1, (xI 7))]),
   S 175 (.build [(eI 0), (eI 0), (eI 0), (eI 0), (eI 0), (eI 0), (eI 0), (eI 0), (eI 0), (eI 0), (eI 0), (.full []), (eI 0), (eB false)] [(0, 1, (xI 1)), (9, 2, (.t 174))]),
   S 176 (.mv (.t 7)),
   E (.st 14 (.t 4) (.t 175)),
   S 5 (.mv (.t 176))])
 (.ret))))))),
 [.cell 4 true 14, .tmp 5], true, true, false⟩
/- (*sibyl/queue.Desk).Live -/
def d_qLive : DFn := ⟨1,
 .seq (.ops [S 2 (.mv (xI 0))])
 (.seq (.seq (.ops [S 3 (.mv (.t 0)),
   S 4 (.bin .eql .ptr (.t 3) (.v .nilp))])
 (.cond (.t 4)
  (.seq (.ops [S 2 (.mv (xI 0))])
  (.ret))
  (.skip)))
 (.seq (.ops [S 5 (.mv (.t 0)),
   S 6 (.nz (.t 5)),
   S 7 (.fld 7 (.t 6)),
   S 8 (.ld false 1 (.t 7)),
   S 9 (.len 2 (.t 8)),
   S 2 (.mv (.t 9))])
 (.ret))),
 [.tmp 2], false, true, false⟩
/- (*sibyl/queue.Desk).Waiting -/
def d_qWaiting : DFn := ⟨2,
 .seq (.ops [S 4 (.mv (xI 0))])
 (.seq (.seq (.ops [S 5 (.mv (.t 0)),
   S 6 (.bin .eql .ptr (.t 5) (.v .nilp)),
   S 7 (.mv (.t 6)),
   ⟨(some 8), .mv (.t 0), (some (7, false)), []⟩,
   ⟨(some 9), .nz (.t 8), (some (7, false)), []⟩,
   ⟨(some 10), .fld 7 (.t 9), (some (7, false)), []⟩,
   ⟨(some 11), .ld false 1 (.t 10), (some (7, false)), []⟩,
   ⟨(some 12), .mv (.t 1), (some (7, false)), []⟩,
   ⟨(some 13), .look .int .nilp false (.t 11) (.t 12), (some (7, false)), []⟩,
   ⟨(some 14), .bin .eql .ptr (.t 13) (.v .nilp), (some (7, false)), []⟩,
   S 15 (.pick (.t 7) (xB true) (.t 14))])
 (.cond (.t 15)
  (.seq (.ops [S 4 (.mv (xI 0))])
  (.ret))
  (.skip)))
 (.seq (.ops [S 16 (.mv (.t 0)),
   S 17 (.nz (.t 16)),
   S 18 (.fld 7 (.t 17)),
   S 19 (.ld false 1 (.t 18)),
   S 20 (.mv (.t 1)),
   S 21 (.look .int .nilp false (.t 19) (.t 20)),
   S 22 (.nz (.t 21)),
   S 23 (.fld 0 (.t 22)),
   S 24 (.ld false 1 (.t 23)),
   S 25 (.len 0 (.t 24)),
   S 4 (.mv (.t 25))])
 (.ret))),
 [.tmp 4], false, true, false⟩
/- (*sibyl/queue.Desk).Lost -/
def d_qLost : DFn := ⟨2,
 .seq (.ops [S 4 (.mv (xB false))])
 (.seq (.ops [S 5 (.mv (.t 0)),
   S 6 (.bin .neq .ptr (.t 5) (.v .nilp)),
   S 7 (.mv (.t 6)),
   ⟨(some 8), .mv (.t 0), (some (7, true)), []⟩,
   ⟨(some 9), .nz (.t 8), (some (7, true)), []⟩,
   ⟨(some 10), .fld 7 (.t 9), (some (7, true)), []⟩,
   ⟨(some 11), .ld false 1 (.t 10), (some (7, true)), []⟩,
   ⟨(some 12), .mv (.t 1), (some (7, true)), []⟩,
   ⟨(some 13), .look .int .nilp false (.t 11) (.t 12), (some (7, true)), []⟩,
   ⟨(some 14), .bin .neq .ptr (.t 13) (.v .nilp), (some (7, true)), []⟩,
   S 15 (.pick (.t 7) (.t 14) (xB false)),
   S 16 (.mv (.t 15)),
   ⟨(some 17), .mv (.t 0), (some (16, true)), []⟩,
   ⟨(some 18), .nz (.t 17), (some (16, true)), []⟩,
   ⟨(some 19), .fld 7 (.t 18), (some (16, true)), []⟩,
   ⟨(some 20), .ld false 1 (.t 19), (some (16, true)), []⟩,
   ⟨(some 21), .mv (.t 1), (some (16, true)), []⟩,
   ⟨(some 22), .look .int .nilp false (.t 20) (.t 21), (some (16, true)), []⟩,
   ⟨(some 23), .nz (.t 22), (some (16, true)), []⟩,
   ⟨(some 24), .fld 1 (.t 23), (some (16, true)), []⟩,
   ⟨(some 25), .ld false 1 (.t 24), (some (16, true)), []⟩,
   S 26 (.pick (.t 16) (.t 25) (xB false)),
   S 4 (.mv (.t 26))])
 (.ret)),
 [.tmp 4], false, true, false⟩
/- sibyl/sibylref18.SameAnswer -/
def d_SameAnswer : DFn := ⟨2,
 .seq (.ops [S 2 (.box true 3 (.t 0)),
   S 3 (.box true 3 (.t 1)),
   S 4 (.mv (xB false))])
 (.seq (.ops [S 6 (.fld 2 (.t 2)),
   S 7 (.ld false 1 (.t 6)),
   S 8 (.fld 2 (.t 3)),
   S 9 (.ld false 1 (.t 8)),
   S 10 (.call n_Same [(.t 7), (.t 9)]),
   S 5 (.mv (.t 10))])
 (.seq (.ops [S 11 (.mv (.t 5)),
   S 12 (.mv (.t 11)),
   ⟨(some 13), .fld 0 (.t 2), (some (12, true)), []⟩,
   ⟨(some 14), .ld false 1 (.t 13), (some (12, true)), []⟩,
   ⟨(some 15), .fld 0 (.t 3), (some (12, true)), []⟩,
   ⟨(some 16), .ld false 1 (.t 15), (some (12, true)), []⟩,
   ⟨(some 17), .bin .eql .none (.t 14) (.t 16), (some (12, true)), []⟩,
   S 18 (.pick (.t 12) (.t 17) (xB false)),
   S 19 (.mv (.t 18)),
   ⟨(some 20), .fld 1 (.t 2), (some (19, true)), []⟩,
   ⟨(some 21), .ld false 1 (.t 20), (some (19, true)), []⟩,
   ⟨(some 22), .fld 1 (.t 3), (some (19, true)), []⟩,
   ⟨(some 23), .ld false 1 (.t 22), (some (19, true)), []⟩,
   ⟨(some 24), .bin .eql .none (.t 21) (.t 23), (some (19, true)), []⟩,
   S 25 (.pick (.t 19) (.t 24) (xB false)),
   S 4 (.mv (.t 25))])
 (.ret))),
 [.tmp 4], false, true, false⟩
/- sibyl/sibylref18.SameRefs -/
def d_SameRefs : DFn := ⟨2,
 .seq (.ops [S 4 (.mv (xB false))])
 (.seq (.seq (.ops [S 6 (.mv (.t 0)),
   S 7 (.len 0 (.t 6)),
   S 8 (.mv (.t 1)),
   S 9 (.len 0 (.t 8)),
   S 10 (.bin .neq .none (.t 7) (.t 9))])
 (.cond (.t 10)
  (.seq (.ops [S 4 (.mv (xB false))])
  (.ret))
  (.skip)))
 (.seq (.seq (.ops [S 5 (.mv (xI 0))])
 (.block 0 (.loop [0, 1, 5] (.seq (.seq (.ops [S 11 (.mv (.t 5)),
     S 12 (.mv (.t 0)),
     S 13 (.len 0 (.t 12)),
     S 14 (.bin .lss .none (.t 11) (.t 13))])
   (.cond (.t 14)
    (.skip)
    (.exit 0)))
   (.seq (.block 1 (.seq (.ops [S 17 (.mv (.t 0)),
      S 18 (.mv (.t 0)),
      S 19 (.mv (.t 5)),
      S 20 (.ixa 2 (.t 18) (.t 19)),
      S 21 (.ld true 2 (.t 20)),
      S 23 (.mv (.t 1)),
      S 24 (.mv (.t 0)),
      S 25 (.mv (.t 5)),
      S 26 (.ixa 2 (.t 24) (.t 25)),
      S 27 (.ld true 2 (.t 26)),
      ⟨(some 22), .call n_Count6 [(.t 17), (.t 21)], none, [(27, .ld true 2 (.t 26), none)]⟩,
      S 28 (.call n_Count6 [(.t 23), (.t 27)]),
      S 29 (.bin .neq .none (.t 22) (.t 28))])
    (.cond (.t 29)
     (.seq (.ops [S 4 (.mv (xB false))])
     (.ret))
     (.skip))))
   (.ops [S 15 (.mv (.t 5)),
     S 16 (.bin .add .none (.t 15) (xI 1)),
     S 5 (.mv (.t 16))]))))))
 (.seq (.ops [S 4 (.mv (xB true))])
 (.ret)))),
 [.tmp 4], false, true, false⟩
/- (*sibyl/sibylref18.Desk).Held -/
def d_rHeld : DFn := ⟨1,
 .seq (.ops [S 2 (.mv (xI 0))])
 (.seq (.ops [S 3 (.mv (xI 0))])
 (.seq (.seq (.ops [S 4 (.mv (xI 0))])
 (.block 0 (.loop [0, 3, 4] (.seq (.seq (.ops [S 6 (.mv (.t 4)),
     S 7 (.mv (.t 0)),
     S 8 (.nz (.t 7)),
     S 9 (.fld 7 (.t 8)),
     S 10 (.ld false 1 (.t 9)),
     S 11 (.len 0 (.t 10)),
     S 12 (.bin .lss .none (.t 6) (.t 11))])
   (.cond (.t 12)
    (.skip)
    (.exit 0)))
   (.seq (.block 1 (.seq (.ops [S 5 (.mv (xI 0))])
    (.block 2 (.loop [0, 3, 4, 5] (.seq (.seq (.ops [S 15 (.mv (.t 5)),
        S 16 (.mv (.t 0)),
        S 17 (.nz (.t 16)),
        S 18 (.fld 7 (.t 17)),
        S 19 (.ld false 1 (.t 18)),
        S 20 (.mv (.t 4)),
        S 21 (.ixa 3 (.t 19) (.t 20)),
        S 22 (.fld 1 (.t 21)),
        S 23 (.ld false 1 (.t 22)),
        S 24 (.len 0 (.t 23)),
        S 25 (.bin .lss .none (.t 15) (.t 24))])
      (.cond (.t 25)
       (.skip)
       (.exit 2)))
      (.seq (.block 3 (.ops [S 28 (.mv (.t 3)),
         S 29 (.mv (.t 0)),
         S 30 (.nz (.t 29)),
         S 31 (.fld 7 (.t 30)),
         S 32 (.ld false 1 (.t 31)),
         S 33 (.mv (.t 4)),
         S 34 (.ixa 3 (.t 32) (.t 33)),
         S 35 (.fld 1 (.t 34)),
         S 36 (.ld false 1 (.t 35)),
         S 37 (.mv (.t 5)),
         S 38 (.ixa 2 (.t 36) (.t 37)),
         S 39 (.fld 1 (.t 38)),
         S 40 (.ld false 1 (.t 39)),
         S 41 (.len 0 (.t 40)),
         S 42 (.bin .add .none (.t 28) (.t 41)),
         S 3 (.mv (.t 42))]))
      (.ops [S 26 (.mv (.t 5)),
        S 27 (.bin .add .none (.t 26) (xI 1)),
        S 5 (.mv (.t 27))])))))))
   (.ops [S 13 (.mv (.t 4)),
     S 14 (.bin .add .none (.t 13) (xI 1)),
     S 4 (.mv (.t 14))]))))))
 (.seq (.ops [S 43 (.mv (.t 3)),
   S 2 (.mv (.t 43))])
 (.ret)))),
 [.tmp 2], false, true, false⟩
/- (*sibyl/sibylref18.Desk).Waiting -/
def d_rWaiting : DFn := ⟨2,
 .seq (.ops [S 4 (.mv (xI 0))])
 (.seq (.ops [S 6 (.mv (.t 0)),
   S 7 (.mv (.t 1)),
   S 8 (.call n_qfind [(.t 6), (.t 7)]),
   S 5 (.mv (.t 8))])
 (.seq (.seq (.ops [S 9 (.mv (.t 5)),
   S 10 (.bin .lss .none (.t 9) (xI 0))])
 (.cond (.t 10)
  (.seq (.ops [S 4 (.mv (xI 0))])
  (.ret))
  (.skip)))
 (.seq (.ops [S 11 (.mv (.t 0)),
   S 12 (.nz (.t 11)),
   S 13 (.fld 7 (.t 12)),
   S 14 (.ld false 1 (.t 13)),
   S 15 (.mv (.t 5)),
   S 16 (.ixa 3 (.t 14) (.t 15)),
   S 17 (.fld 1 (.t 16)),
   S 18 (.ld false 1 (.t 17)),
   S 19 (.len 0 (.t 18)),
   S 4 (.mv (.t 19))])
 (.ret)))),
 [.tmp 4], false, true, false⟩
/- (*sibyl/sibylref18.Desk).Lost -/
def d_rLost : DFn := ⟨2,
 .seq (.ops [S 4 (.mv (xB false))])
 (.seq (.ops [S 6 (.mv (.t 0)),
   S 7 (.mv (.t 1)),
   S 8 (.call n_qfind [(.t 6), (.t 7)]),
   S 5 (.mv (.t 8))])
 (.seq (.ops [S 9 (.mv (.t 5)),
   S 10 (.bin .geq .none (.t 9) (xI 0)),
   S 11 (.mv (.t 10)),
   ⟨(some 12), .mv (.t 0), (some (11, true)), []⟩,
   ⟨(some 13), .nz (.t 12), (some (11, true)), []⟩,
   ⟨(some 14), .fld 7 (.t 13), (some (11, true)), []⟩,
   ⟨(some 15), .ld false 1 (.t 14), (some (11, true)), []⟩,
   ⟨(some 16), .mv (.t 5), (some (11, true)), []⟩,
   ⟨(some 17), .ixa 3 (.t 15) (.t 16), (some (11, true)), []⟩,
   ⟨(some 18), .fld 2 (.t 17), (some (11, true)), []⟩,
   ⟨(some 19), .ld false 1 (.t 18), (some (11, true)), []⟩,
   S 20 (.pick (.t 11) (.t 19) (xB false)),
   S 4 (.mv (.t 20))])
 (.ret))),
 [.tmp 4], false, true, false⟩
/- sibyl/sibyllaw18.hit -/
def d_hit : DFn := ⟨2,
 .seq (.ops [S 4 (.new true [(eI 0), (.full []), (.full [])])])
 (.seq (.ops [S 5 (.mv (.t 0)),
   S 6 (.mv (.t 1)),
   S 7 (.lit 1 false [[(eI 0)]] [(0, (.t 6))]),
   S 8 (.lit 1 false [[(.full [])]] [(0, (.t 7))]),
   S 9 (.mv (.t 1)),
   S 10 (.build [(eI 0), (eI 0)] [(0, 1, (.t 9))]),
   S 11 (.lit 2 true [[(eI 0), (eI 0)]] [(0, (.t 10))]),
   S 12 (.build [(.full []), (.full [])] [(0, 1, (.t 8)), (1, 1, (.t 11))]),
   S 13 (.build [(eI 0), (.full []), (.full [])] [(0, 1, (.t 5)), (1, 2, (.t 12))]),
   E (.st 3 (.t 4) (.t 13))])
 (.ret)),
 [.cell 4 true 3], true, true, false⟩
/- (*sibyl/queue.Desk).publish -/
def ra_publish0 : DC :=
 .ops [S 12 (.new true [(eI 0), (.full []), (.full [])]),
   E (.st 3 (.t 12) (.t 38))]
def rb_publish0 : DC :=
 .block 3 (.seq (.ops [S 39 (.ld false 1 (.t 3)),
    S 40 (.nz (.t 39)),
    S 41 (.fld 7 (.t 40)),
    S 42 (.ld false 1 (.t 41)),
    S 43 (.fld 0 (.t 12)),
    S 44 (.ld false 1 (.t 43)),
    S 45 (.look .int .nilp false (.t 42) (.t 44)),
    S 13 (.mv (.t 45))])
  (.block 4 (.seq (.ops [S 58 (.mv (.t 13)),
     S 59 (.bin .eql .ptr (.t 58) (.v .nilp)),
     S 60 (.mv (.t 59)),
     ⟨(some 61), .mv (.t 13), (some (60, false)), []⟩,
     ⟨(some 62), .nz (.t 61), (some (60, false)), []⟩,
     ⟨(some 63), .fld 1 (.t 62), (some (60, false)), []⟩,
     ⟨(some 64), .ld false 1 (.t 63), (some (60, false)), []⟩,
     S 65 (.pick (.t 60) (xB true) (.t 64)),
     S 57 (.mv (.t 65))])
   (.cond (.t 57)
    (.ops [S 66 (.ld false 1 (.t 8)),
      S 67 (.fld 1 (.t 12)),
      S 68 (.ld true 2 (.t 67)),
      S 69 (.callv (.t 66) [(.t 68)])])
    (.seq (.ops [S 71 (.mv (.t 13)),
      S 72 (.nz (.t 71)),
      S 73 (.fld 0 (.t 72)),
      S 74 (.ld false 1 (.t 73)),
      S 75 (.len 0 (.t 74)),
      S 76 (.ld false 1 (.t 3)),
      S 77 (.nz (.t 76)),
      S 78 (.fld 0 (.t 77)),
      S 79 (.fld 5 (.t 78)),
      S 80 (.ld false 1 (.t 79)),
      S 81 (.bin .geq .none (.t 75) (.t 80)),
      S 70 (.mv (.t 81))])
    (.cond (.t 70)
     (.seq (.ops [S 82 (.mv (.t 13)),
       S 83 (.nz (.t 82)),
       S 84 (.fld 1 (.t 83)),
       E (.st 1 (.t 84) (xB true))])
     (.ops [S 85 (.ld false 1 (.t 8)),
       S 86 (.fld 1 (.t 12)),
       S 87 (.ld true 2 (.t 86)),
       S 88 (.callv (.t 85) [(.t 87)])]))
     (.ops [S 46 (.mv (.t 13)),
       S 47 (.mv (.t 13)),
       S 48 (.nz (.t 47)),
       S 49 (.fld 0 (.t 48)),
       S 50 (.ld false 1 (.t 49)),
       S 51 (.fld 1 (.t 12)),
       S 52 (.ld true 2 (.t 51)),
       S 53 (.lit 2 true [[(.full []), (.full [])]] [(0, (.t 52))]),
       S 54 (.app 2 true 48 (.t 50) (.t 53)),
       S 55 (.nz (.t 46)),
       S 56 (.fld 0 (.t 55)),
       E (.st 1 (.t 56) (.t 54))])))))))
def d_publish : DFn := ⟨3,
 .seq (.ops [S 3 (.box false 1 (.t 0)),
   S 4 (.box true 14 (.t 1)),
   S 6 (.nils 2 true)])
 (.seq (.ops [S 7 (.new false [(.full [])])])
 (.seq (.ops [S 19 (.mkf (.func n_publish1) [] [(.t 7)]),
   S 8 (.new false [.nilf]),
   E (.st 1 (.t 8) (.t 19))])
 (.seq (.ops [S 20 (.mv (.t 2)),
   S 21 (.len 0 (.t 20)),
   S 22 (.mks 1 false 24 [(.full [])] (.t 21) (.t 21)),
   S 9 (.mv (.t 22))])
 (.seq (.seq (.ops [S 23 (.mv (.t 2)),
   S 24 (.len 0 (.t 23)),
   S 25 (.mv (xI 0))])
 (.block 0 (.loop [2, 3, 4, 6, 7, 8, 9, 23, 24, 25] (.seq (.ops [S 26 (.bin .lss .none (.t 25) (.t 24))])
   (.seq (.cond (.t 26)
    (.skip)
    (.exit 0))
   (.seq (.block 1 (.seq (.ops [S 27 (.mv (.t 25)),
      S 28 (.ixa 4 (.t 23) (.t 25)),
      S 29 (.ld true 4 (.t 28)),
      S 11 (.new true [(.full []), (.full []), (.full []), (.full [])]),
      S 10 (.mv (.t 27)),
      E (.st 4 (.t 11) (.t 29))])
    (.ops [S 30 (.mv (.t 9)),
      S 31 (.mv (.t 10)),
      S 32 (.fld 0 (.t 11)),
      S 33 (.ld false 1 (.t 32)),
      S 34 (.ixa 1 (.t 30) (.t 31)),
      E (.st 1 (.t 34) (.t 33))])))
   (.ops [S 35 (.bin .add .none (.t 25) (xI 1)),
     S 25 (.mv (.t 35))])))))))
 (.seq (.seq (.ops [S 36 (.mv (.t 9)),
   S 37 (.call n_Merge [(.v (.fn (.func 64) [] [])), (.t 36)])])
 (.block 2 (.range [38] [3, 8] (.t 37) ra_publish0 rb_publish0)))
 (.seq (.seq (.ops [S 89 (.mv (.t 2)),
   S 90 (.len 0 (.t 89)),
   S 91 (.mv (xI 0))])
 (.block 5 (.loop [3, 4, 7, 89, 90, 91] (.seq (.ops [S 92 (.bin .lss .none (.t 91) (.t 90))])
   (.seq (.cond (.t 92)
    (.skip)
    (.exit 5))
   (.seq (.block 6 (.seq (.ops [S 93 (.ixa 4 (.t 89) (.t 91)),
      S 94 (.ld true 4 (.t 93)),
      S 15 (.new true [(.full []), (.full []), (.full []), (.full [])]),
      E (.st 4 (.t 15) (.t 94))])
    (.seq (.ops [S 95 (.fld 1 (.t 15)),
      S 96 (.ld false 1 (.t 95)),
      S 97 (.len 0 (.t 96)),
      S 98 (.mv (xI 0))])
    (.block 7 (.loop [3, 4, 7, 89, 90, 91, 96, 97, 98] (.seq (.ops [S 99 (.bin .lss .none (.t 98) (.t 97))])
      (.seq (.cond (.t 99)
       (.skip)
       (.exit 7))
      (.seq (.block 8 (.seq (.ops [S 100 (.ixa 1 (.t 96) (.t 98)),
         S 101 (.ld false 1 (.t 100)),
         S 17 (.mv (.t 101))])
       (.seq (.ops [S 102 (.ld false 1 (.t 3)),
         S 103 (.nz (.t 102)),
         S 104 (.fld 7 (.t 103)),
         S 105 (.ld false 1 (.t 104)),
         S 106 (.mv (.t 17)),
         S 107 (.look .int .nilp false (.t 105) (.t 106)),
         S 18 (.mv (.t 107))])
       (.seq (.ops [S 108 (.mv (.t 18)),
         S 109 (.bin .neq .ptr (.t 108) (.v .nilp))])
       (.cond (.t 109)
        (.ops [S 110 (.mv (.t 18)),
          S 111 (.nz (.t 110)),
          S 112 (.fld 1 (.t 111)),
          E (.st 1 (.t 112) (xB true))])
        (.skip))))))
      (.ops [S 113 (.bin .add .none (.t 98) (xI 1)),
        S 98 (.mv (.t 113))])))))))))
   (.ops [S 114 (.bin .add .none (.t 91) (xI 1)),
     S 91 (.mv (.t 114))])))))))
 (.seq (.ops [S 115 (.ld false 1 (.t 7)),
   S 116 (.fld 9 (.t 4)),
   S 117 (.ld true 2 (.t 116)),
   S 118 (.lit 2 true [[(eI 0), (eI 0)]] [(0, (.t 117))]),
   S 119 (.app 2 true 16 (.t 115) (.t 118)),
   S 6 (.mv (.t 119))])
 (.ret)))))))),
 [.tmp 6], false, false, false⟩
/- (*sibyl/queue.Desk).poll -/
def d_poll : DFn := ⟨2,
 .seq (.ops [S 3 (.box true 14 (.t 1)),
   S 4 (.new true [(eI 0), (eI 0), (.full [])]),
   S 5 (.nils 2 true)])
 (.seq (.ops [S 12 (.mv (.t 0)),
   S 13 (.nz (.t 12)),
   S 14 (.fld 7 (.t 13)),
   S 15 (.ld false 1 (.t 14)),
   S 16 (.fld 1 (.t 3)),
   S 17 (.ld false 1 (.t 16)),
   S 18 (.look .int .nilp false (.t 15) (.t 17)),
   S 6 (.mv (.t 18))])
 (.seq (.block 0 (.seq (.ops [S 20 (.fld 2 (.t 3)),
    S 21 (.ld false 1 (.t 20)),
    S 22 (.bin .lss .none (.t 21) (xI 1)),
    S 19 (.mv (.t 22))])
  (.cond (.t 19)
   (.seq (.ops [S 23 (.build [(eI 0), (eI 0), (.full [])] [(0, 1, (xI 1))]),
     E (.st 3 (.t 4) (.t 23)),
     S 5 (.nils 2 true)])
   (.ret))
   (.seq (.ops [S 25 (.mv (.t 6)),
     S 26 (.bin .eql .ptr (.t 25) (.v .nilp)),
     S 24 (.mv (.t 26))])
   (.cond (.t 24)
    (.seq (.ops [S 27 (.build [(eI 0), (eI 0), (.full [])] [(0, 1, (xI 15))]),
      E (.st 3 (.t 4) (.t 27)),
      S 5 (.nils 2 true)])
    (.ret))
    (.seq (.ops [S 29 (.mv (.t 6)),
      S 30 (.nz (.t 29)),
      S 31 (.fld 0 (.t 30)),
      S 32 (.ld false 1 (.t 31)),
      S 33 (.len 0 (.t 32)),
      S 34 (.bin .eql .none (.t 33) (xI 0)),
      S 35 (.mv (.t 34)),
      ⟨(some 36), .mv (.t 6), (some (35, true)), []⟩,
      ⟨(some 37), .nz (.t 36), (some (35, true)), []⟩,
      ⟨(some 38), .fld 1 (.t 37), (some (35, true)), []⟩,
      ⟨(some 39), .ld false 1 (.t 38), (some (35, true)), []⟩,
      S 40 (.pick (.t 35) (.t 39) (xB false)),
      S 28 (.mv (.t 40))])
    (.cond (.t 28)
     (.seq (.ops [S 41 (.build [(eI 0), (eI 0), (.full [])] [(0, 1, (xI 20))]),
       E (.st 3 (.t 4) (.t 41)),
       S 5 (.nils 2 true)])
     (.ret))
     (.skip))))))))
 (.seq (.ops [S 7 (.new true [(eI 0), (eI 0), (.full [])])])
 (.seq (.ops [S 8 (.nils 2 true)])
 (.seq (.ops [S 42 (.fld 2 (.t 3)),
   S 43 (.ld false 1 (.t 42)),
   S 44 (.mv (.t 6)),
   S 45 (.nz (.t 44)),
   S 46 (.fld 0 (.t 45)),
   S 47 (.ld false 1 (.t 46)),
   S 48 (.len 0 (.t 47)),
   S 49 (.mnx false (.t 43) (.t 48)),
   S 9 (.mv (.t 49))])
 (.seq (.seq (.ops [S 50 (.mv (.t 6)),
   S 51 (.nz (.t 50)),
   S 52 (.fld 0 (.t 51)),
   S 53 (.ld false 1 (.t 52)),
   S 54 (.mv (.t 9)),
   S 55 (.slc 2 (.t 53) none (some (.t 54)) none),
   S 56 (.len 0 (.t 55)),
   S 57 (.mv (xI 0))])
 (.block 1 (.loop [4, 6, 7, 8, 9, 55, 56, 57] (.seq (.ops [S 58 (.bin .lss .none (.t 57) (.t 56))])
   (.seq (.cond (.t 58)
    (.skip)
    (.exit 1))
   (.seq (.block 2 (.seq (.ops [S 59 (.ixa 2 (.t 55) (.t 57)),
      S 60 (.ld true 2 (.t 59)),
      S 11 (.new true [(.full []), (.full [])]),
      E (.st 2 (.t 11) (.t 60))])
    (.seq (.ops [S 61 (.fld 2 (.t 7)),
      S 62 (.ld false 1 (.t 61)),
      S 63 (.fld 0 (.t 11)),
      S 64 (.ld false 1 (.t 63)),
      S 65 (.lit 1 false [[(.full [])]] [(0, (.t 64))]),
      S 66 (.app 1 false 24 (.t 62) (.t 65)),
      S 67 (.fld 2 (.t 7)),
      E (.st 1 (.t 67) (.t 66))])
    (.ops [S 68 (.mv (.t 8)),
      S 69 (.fld 1 (.t 11)),
      S 70 (.ld false 1 (.t 69)),
      S 71 (.app 2 true 16 (.t 68) (.t 70)),
      S 8 (.mv (.t 71))]))))
   (.ops [S 72 (.bin .add .none (.t 57) (xI 1)),
     S 57 (.mv (.t 72))])))))))
 (.seq (.ops [S 73 (.mv (.t 6)),
   S 74 (.lit 2 true [] []),
   S 75 (.mv (.t 6)),
   S 76 (.nz (.t 75)),
   S 77 (.fld 0 (.t 76)),
   S 78 (.ld false 1 (.t 77)),
   S 79 (.mv (.t 9)),
   S 80 (.slc 2 (.t 78) (some (.t 79)) none none),
   S 81 (.app 2 true 48 (.t 74) (.t 80)),
   S 82 (.nz (.t 73)),
   S 83 (.fld 0 (.t 82)),
   E (.st 1 (.t 83) (.t 81))])
 (.seq (.ops [S 84 (.ld true 3 (.t 7)),
   S 85 (.mv (.t 8)),
   E (.st 3 (.t 4) (.t 84)),
   S 5 (.mv (.t 85))])
 (.ret))))))))),
 [.cell 4 true 3, .tmp 5], false, false, false⟩
/- sibyl/sibyllaw18.rest -/
def d_qrest : DFn := ⟨2,
 .seq (.ops [S 4 (.mv (xI 0))])
 (.seq (.ops [S 5 (.mv (.t 0)),
   S 6 (.mv (.t 1)),
   S 7 (.bin .rem .none (.t 5) (.t 6)),
   S 8 (.mv (.t 1)),
   S 9 (.bin .add .none (.t 7) (.t 8)),
   S 10 (.mv (.t 1)),
   S 11 (.bin .rem .none (.t 9) (.t 10)),
   S 4 (.mv (.t 11))])
 (.ret)),
 [.tmp 4], false, true, false⟩
/- (*sibyl/sibylref18.Desk).find -/
def d_qfind : DFn := ⟨2,
 .seq (.ops [S 4 (.mv (xI 0))])
 (.seq (.seq (.ops [S 5 (.mv (xI 0))])
 (.block 0 (.loop [0, 1, 5] (.seq (.seq (.ops [S 6 (.mv (.t 5)),
     S 7 (.mv (.t 0)),
     S 8 (.nz (.t 7)),
     S 9 (.fld 7 (.t 8)),
     S 10 (.ld false 1 (.t 9)),
     S 11 (.len 0 (.t 10)),
     S 12 (.bin .lss .none (.t 6) (.t 11))])
   (.cond (.t 12)
    (.skip)
    (.exit 0)))
   (.seq (.block 1 (.seq (.ops [S 15 (.mv (.t 0)),
      S 16 (.nz (.t 15)),
      S 17 (.fld 7 (.t 16)),
      S 18 (.ld false 1 (.t 17)),
      S 19 (.mv (.t 5)),
      S 20 (.ixa 3 (.t 18) (.t 19)),
      S 21 (.fld 0 (.t 20)),
      S 22 (.ld false 1 (.t 21)),
      S 23 (.mv (.t 1)),
      S 24 (.bin .eql .none (.t 22) (.t 23))])
    (.cond (.t 24)
     (.seq (.ops [S 25 (.mv (.t 5)),
       S 4 (.mv (.t 25))])
     (.ret))
     (.skip))))
   (.ops [S 13 (.mv (.t 5)),
     S 14 (.bin .add .none (.t 13) (xI 1)),
     S 5 (.mv (.t 14))]))))))
 (.seq (.ops [S 4 (.mv (xI (-1)))])
 (.ret))),
 [.tmp 4], false, true, false⟩
/- (*sibyl/sibylref18.Desk).poll -/
def d_rpoll : DFn := ⟨2,
 .seq (.ops [S 3 (.box true 14 (.t 1)),
   S 4 (.new true [(eI 0), (eI 0), (.full []), (.full [])])])
 (.seq (.seq (.ops [S 10 (.fld 2 (.t 3)),
   S 11 (.ld false 1 (.t 10)),
   S 12 (.bin .lss .none (.t 11) (xI 1))])
 (.cond (.t 12)
  (.seq (.ops [S 13 (.build [(eI 0), (eI 0), (.full [])] [(0, 1, (xI 1))]),
    S 14 (.build [(eI 0), (eI 0), (.full []), (.full [])] [(0, 3, (.t 13))]),
    E (.st 4 (.t 4) (.t 14))])
  (.ret))
  (.skip)))
 (.seq (.ops [S 15 (.mv (.t 0)),
   S 16 (.fld 1 (.t 3)),
   S 17 (.ld false 1 (.t 16)),
   S 18 (.call n_qfind [(.t 15), (.t 17)]),
   S 5 (.mv (.t 18))])
 (.seq (.seq (.ops [S 19 (.mv (.t 5)),
   S 20 (.bin .lss .none (.t 19) (xI 0))])
 (.cond (.t 20)
  (.seq (.ops [S 21 (.build [(eI 0), (eI 0), (.full [])] [(0, 1, (xI 15))]),
    S 22 (.build [(eI 0), (eI 0), (.full []), (.full [])] [(0, 3, (.t 21))]),
    E (.st 4 (.t 4) (.t 22))])
  (.ret))
  (.skip)))
 (.seq (.ops [S 23 (.mv (.t 0)),
   S 24 (.nz (.t 23)),
   S 25 (.fld 7 (.t 24)),
   S 26 (.ld false 1 (.t 25)),
   S 27 (.mv (.t 5)),
   S 28 (.ixa 3 (.t 26) (.t 27)),
   S 29 (.ld true 3 (.t 28)),
   S 6 (.new true [(eI 0), (.full []), (eB false)]),
   E (.st 3 (.t 6) (.t 29))])
 (.seq (.seq (.ops [S 30 (.fld 1 (.t 6)),
   S 31 (.ld false 1 (.t 30)),
   S 32 (.len 0 (.t 31)),
   S 33 (.bin .eql .none (.t 32) (xI 0)),
   S 34 (.mv (.t 33)),
   ⟨(some 35), .fld 2 (.t 6), (some (34, true)), []⟩,
   ⟨(some 36), .ld false 1 (.t 35), (some (34, true)), []⟩,
   S 37 (.pick (.t 34) (.t 36) (xB false))])
 (.cond (.t 37)
  (.seq (.ops [S 38 (.build [(eI 0), (eI 0), (.full [])] [(0, 1, (xI 20))]),
    S 39 (.build [(eI 0), (eI 0), (.full []), (.full [])] [(0, 3, (.t 38))]),
    E (.st 4 (.t 4) (.t 39))])
  (.ret))
  (.skip)))
 (.seq (.ops [S 40 (.build [(eI 0), (eI 0), (.full []), (.full [])] []),
   S 7 (.new true [(eI 0), (eI 0), (.full []), (.full [])]),
   E (.st 4 (.t 7) (.t 40))])
 (.seq (.ops [S 41 (.fld 2 (.t 3)),
   S 42 (.ld false 1 (.t 41)),
   S 43 (.fld 1 (.t 6)),
   S 44 (.ld false 1 (.t 43)),
   S 45 (.len 0 (.t 44)),
   S 46 (.mnx false (.t 42) (.t 45)),
   S 8 (.mv (.t 46))])
 (.seq (.seq (.ops [S 9 (.mv (xI 0))])
 (.block 0 (.loop [0, 4, 5, 6, 7, 8, 9] (.seq (.seq (.ops [S 47 (.mv (.t 9)),
     S 48 (.mv (.t 8)),
     S 49 (.bin .lss .none (.t 47) (.t 48))])
   (.cond (.t 49)
    (.skip)
    (.exit 0)))
   (.seq (.block 1 (.seq (.ops [S 52 (.fld 0 (.t 7)),
      S 53 (.fld 2 (.t 52)),
      S 54 (.ld false 1 (.t 53)),
      S 55 (.fld 1 (.t 6)),
      S 56 (.ld false 1 (.t 55)),
      S 57 (.mv (.t 9)),
      S 58 (.ixa 2 (.t 56) (.t 57)),
      S 59 (.fld 0 (.t 58)),
      S 60 (.ld false 1 (.t 59)),
      S 61 (.lit 1 false [[(.full [])]] [(0, (.t 60))]),
      S 62 (.app 1 false 24 (.t 54) (.t 61)),
      S 63 (.fld 0 (.t 7)),
      S 64 (.fld 2 (.t 63)),
      E (.st 1 (.t 64) (.t 62))])
    (.ops [S 65 (.fld 3 (.t 7)),
      S 66 (.ld false 1 (.t 65)),
      S 67 (.fld 1 (.t 6)),
      S 68 (.ld false 1 (.t 67)),
      S 69 (.mv (.t 9)),
      S 70 (.ixa 2 (.t 68) (.t 69)),
      S 71 (.fld 1 (.t 70)),
      S 72 (.ld false 1 (.t 71)),
      S 73 (.app 2 true 16 (.t 66) (.t 72)),
      S 74 (.fld 3 (.t 7)),
      E (.st 1 (.t 74) (.t 73))])))
   (.ops [S 50 (.mv (.t 9)),
     S 51 (.bin .add .none (.t 50) (xI 1)),
     S 9 (.mv (.t 51))]))))))
 (.seq (.ops [S 75 (.mv (.t 0)),
   S 76 (.nz (.t 75)),
   S 77 (.fld 7 (.t 76)),
   S 78 (.ld false 1 (.t 77)),
   S 79 (.mv (.t 5)),
   S 80 (.lit 2 true [] []),
   S 81 (.fld 1 (.t 6)),
   S 82 (.ld false 1 (.t 81)),
   S 83 (.mv (.t 8)),
   S 84 (.slc 2 (.t 82) (some (.t 83)) none none),
   ⟨(some 85), .app 2 true 48 (.t 80) (.t 84), none, [(78, .ld false 1 (.t 77), none)]⟩,
   S 86 (.ixa 3 (.t 78) (.t 79)),
   S 87 (.fld 1 (.t 86)),
   E (.st 1 (.t 87) (.t 85))])
 (.seq (.ops [S 88 (.ld true 4 (.t 7)),
   E (.st 4 (.t 4) (.t 88))])
 (.ret))))))))))),
 [.cell 4 true 4], false, false, false⟩
/- (*sibyl/queue.Desk).publish$1 -/
def d_publish1 : DFn := ⟨2,
 .seq (.ops [S 2 (.box true 2 (.t 0))])
 (.ops [S 3 (.ld false 1 (.t 1)),
   S 4 (.fld 1 (.t 2)),
   S 5 (.ld false 1 (.t 4)),
   S 6 (.app 2 true 16 (.t 3) (.t 5)),
   E (.st 1 (.t 1) (.t 6))]),
 [], false, false, false⟩
/- sibyl/tuple.Merge[sibyl/api.Hit] -/
def d_Merge : DFn := ⟨2,
 .seq (.ops [S 2 (.box false 1 (.t 0)),
   S 3 (.box false 1 (.t 1)),
   S 4 (.mv (.v .nilf))])
 (.seq (.ops [S 5 (.mkf (.func n_Merge1) [] [(.t 3), (.t 2)]),
   S 4 (.mv (.t 5))])
 (.ret)),
 [.tmp 4], false, false, false⟩
/- (*sibyl/queue.Desk).publish$2 -/
def d_publish2 : DFn := ⟨2,
 .seq (.ops [S 2 (.box true 3 (.t 0)),
   S 3 (.box true 3 (.t 1)),
   S 4 (.mv (xB false))])
 (.seq (.ops [S 5 (.fld 0 (.t 2)),
   S 6 (.ld false 1 (.t 5)),
   S 7 (.fld 0 (.t 3)),
   S 8 (.ld false 1 (.t 7)),
   S 9 (.bin .lss .none (.t 6) (.t 8)),
   S 4 (.mv (.t 9))])
 (.ret)),
 [.tmp 4], false, true, false⟩
/- sibyl/tuple.Merge[sibyl/api.Hit]$1 -/
def d_Merge1 : DFn := ⟨3,
 .seq (.ops [S 6 (.ld false 1 (.t 1)),
   S 8 (.ld false 1 (.t 2)),
   S 4 (.new true [(.full []), .nilf]),
   ⟨(some 7), .call n_Clone [(.t 6)], none, [(8, .ld false 1 (.t 2), none)]⟩,
   S 9 (.build [(.full []), .nilf] [(0, 1, (.t 7)), (1, 1, (.t 8))]),
   E (.st 2 (.t 4) (.t 9))])
 (.seq (.ops [S 10 (.ld true 2 (.t 4)),
   S 11 (.call n_best [(.t 10)]),
   S 5 (.mv (.t 11))])
 (.block 0 (.loop [0, 4, 5] (.seq (.seq (.ops [S 12 (.mv (.t 5)),
     S 13 (.bin .geq .none (.t 12) (xI 0))])
   (.cond (.t 13)
    (.skip)
    (.exit 0)))
   (.seq (.block 1 (.seq (.seq (.ops [S 16 (.mv (.t 0)),
      S 17 (.fld 0 (.t 4)),
      S 18 (.ld false 1 (.t 17)),
      S 19 (.mv (.t 5)),
      S 20 (.ixa 1 (.t 18) (.t 19)),
      S 21 (.ld false 1 (.t 20)),
      S 22 (.ixa 3 (.t 21) (xI 0)),
      S 23 (.ld true 3 (.t 22)),
      S 24 (.callv (.t 16) [(.t 23)]),
      S 25 (.un .not (.t 24))])
    (.cond (.t 25)
     (.ret)
     (.skip)))
    (.ops [S 26 (.fld 0 (.t 4)),
      S 27 (.ld false 1 (.t 26)),
      S 28 (.mv (.t 5)),
      S 29 (.fld 0 (.t 4)),
      S 30 (.ld false 1 (.t 29)),
      S 31 (.mv (.t 5)),
      S 32 (.ixa 1 (.t 30) (.t 31)),
      S 33 (.ld false 1 (.t 32)),
      S 34 (.slc 3 (.t 33) (some (xI 1)) none none),
      S 35 (.ixa 1 (.t 27) (.t 28)),
      E (.st 1 (.t 35) (.t 34))])))
   (.ops [S 14 (.ld true 2 (.t 4)),
     S 15 (.call n_best [(.t 14)]),
     S 5 (.mv (.t 15))])))))),
 [], false, false, false⟩
/- slices.Clone[[][]sibyl/api.Hit,[]sibyl/api.Hit] -/
def d_Clone : DFn := ⟨1,
 .seq (.ops [S 2 (.nils 1 false)])
 (.seq (.seq (.ops [S 3 (.mv (.t 0)),
   S 4 (.isnil false (.t 3))])
 (.cond (.t 4)
  (.seq (.ops [S 2 (.nils 1 false)])
  (.ret))
  (.skip)))
 (.seq (.ops [S 5 (.lit 1 false [] []),
   S 6 (.mv (.t 0)),
   S 7 (.app 1 false 24 (.t 5) (.t 6)),
   S 2 (.mv (.t 7))])
 (.ret))),
 [.tmp 2], false, false, false⟩
/- (sibyl/tuple.heads[sibyl/api.Hit]).best -/
def d_best : DFn := ⟨1,
 .seq (.ops [S 1 (.box true 2 (.t 0)),
   S 2 (.mv (xI 0))])
 (.seq (.ops [S 3 (.mv (xI (-1)))])
 (.seq (.seq (.ops [S 6 (.fld 0 (.t 1)),
   S 7 (.ld false 1 (.t 6)),
   S 8 (.len 0 (.t 7)),
   S 9 (.mv (xI 0))])
 (.block 0 (.loop [1, 3, 7, 8, 9] (.seq (.ops [S 10 (.bin .lss .none (.t 9) (.t 8))])
   (.seq (.cond (.t 10)
    (.skip)
    (.exit 0))
   (.seq (.block 1 (.seq (.ops [S 11 (.mv (.t 9)),
      S 12 (.ixa 1 (.t 7) (.t 9)),
      S 13 (.ld false 1 (.t 12)),
      S 4 (.mv (.t 11)),
      S 5 (.mv (.t 13))])
    (.seq (.ops [S 14 (.mv (.t 5)),
      S 15 (.len 0 (.t 14)),
      S 16 (.bin .gtr .none (.t 15) (xI 0)),
      S 17 (.mv (.t 16)),
      ⟨(some 18), .mv (.t 3), (some (17, true)), []⟩,
      ⟨(some 19), .bin .lss .none (.t 18) (xI 0), (some (17, true)), []⟩,
      ⟨(some 20), .mv (.t 19), (some (17, true)), []⟩,
      ⟨(some 21), .fld 1 (.t 1), (some (20, false)), []⟩,
      ⟨(some 22), .ld false 1 (.t 21), (some (20, false)), []⟩,
      ⟨(some 23), .mv (.t 5), (some (20, false)), []⟩,
      ⟨(some 24), .ixa 3 (.t 23) (xI 0), (some (20, false)), []⟩,
      ⟨(some 25), .ld true 3 (.t 24), (some (20, false)), []⟩,
      ⟨(some 26), .fld 0 (.t 1), (some (20, false)), []⟩,
      ⟨(some 27), .ld false 1 (.t 26), (some (20, false)), []⟩,
      ⟨(some 28), .mv (.t 3), (some (20, false)), []⟩,
      ⟨(some 29), .ixa 1 (.t 27) (.t 28), (some (20, false)), []⟩,
      ⟨(some 30), .ld false 1 (.t 29), (some (20, false)), []⟩,
      ⟨(some 31), .ixa 3 (.t 30) (xI 0), (some (20, false)), []⟩,
      ⟨(some 32), .ld true 3 (.t 31), (some (20, false)), []⟩,
      ⟨(some 33), .callv (.t 22) [(.t 25), (.t 32)], (some (20, false)), []⟩,
      ⟨(some 34), .pick (.t 20) (xB true) (.t 33), (some (17, true)), []⟩,
      S 35 (.pick (.t 17) (.t 34) (xB false))])
    (.cond (.t 35)
     (.ops [S 36 (.mv (.t 4)),
       S 3 (.mv (.t 36))])
     (.skip)))))
   (.ops [S 37 (.bin .add .none (.t 9) (xI 1)),
     S 9 (.mv (.t 37))])))))))
 (.seq (.ops [S 38 (.mv (.t 3)),
   S 2 (.mv (.t 38))])
 (.ret)))),
 [.tmp 2], false, true, false⟩
/- sibyl/sibylref06.Same -/
def d_Same : DFn := ⟨2,
 .seq (.ops [S 4 (.mv (xB false))])
 (.seq (.seq (.ops [S 6 (.mv (.t 0)),
   S 7 (.len 0 (.t 6)),
   S 8 (.mv (.t 1)),
   S 9 (.len 0 (.t 8)),
   S 10 (.bin .neq .none (.t 7) (.t 9))])
 (.cond (.t 10)
  (.seq (.ops [S 4 (.mv (xB false))])
  (.ret))
  (.skip)))
 (.seq (.seq (.ops [S 5 (.mv (xI 0))])
 (.block 0 (.loop [0, 1, 5] (.seq (.seq (.ops [S 11 (.mv (.t 5)),
     S 12 (.mv (.t 0)),
     S 13 (.len 0 (.t 12)),
     S 14 (.bin .lss .none (.t 11) (.t 13))])
   (.cond (.t 14)
    (.skip)
    (.exit 0)))
   (.seq (.block 1 (.seq (.ops [S 17 (.mv (.t 0)),
      S 18 (.mv (.t 5)),
      S 19 (.ixa 1 (.t 17) (.t 18)),
      S 20 (.ld false 1 (.t 19)),
      S 21 (.mv (.t 1)),
      S 22 (.mv (.t 5)),
      S 23 (.ixa 1 (.t 21) (.t 22)),
      S 24 (.ld false 1 (.t 23)),
      S 25 (.call n_Compare6 [(.t 20), (.t 24)]),
      S 26 (.bin .neq .none (.t 25) (xI 0))])
    (.cond (.t 26)
     (.seq (.ops [S 4 (.mv (xB false))])
     (.ret))
     (.skip))))
   (.ops [S 15 (.mv (.t 5)),
     S 16 (.bin .add .none (.t 15) (xI 1)),
     S 5 (.mv (.t 16))]))))))
 (.seq (.ops [S 4 (.mv (xB true))])
 (.ret)))),
 [.tmp 4], false, true, false⟩
/- sibyl/sibylref18.Count -/
def d_Count6 : DFn := ⟨2,
 .seq (.ops [S 3 (.box true 2 (.t 1)),
   S 4 (.mv (xI 0))])
 (.seq (.ops [S 5 (.mv (xI 0))])
 (.seq (.seq (.ops [S 6 (.mv (xI 0))])
 (.block 0 (.loop [0, 3, 5, 6] (.seq (.seq (.ops [S 7 (.mv (.t 6)),
     S 8 (.mv (.t 0)),
     S 9 (.len 0 (.t 8)),
     S 10 (.bin .lss .none (.t 7) (.t 9))])
   (.cond (.t 10)
    (.skip)
    (.exit 0)))
   (.seq (.block 1 (.seq (.ops [S 13 (.mv (.t 0)),
      S 14 (.mv (.t 6)),
      S 15 (.ixa 2 (.t 13) (.t 14)),
      S 16 (.ld true 2 (.t 15)),
      S 17 (.ld true 2 (.t 3)),
      S 18 (.bin .eql (.cells [.int, .int]) (.t 16) (.t 17))])
    (.cond (.t 18)
     (.ops [S 19 (.mv (.t 5)),
       S 20 (.bin .add .none (.t 19) (xI 1)),
       S 5 (.mv (.t 20))])
     (.skip))))
   (.ops [S 11 (.mv (.t 6)),
     S 12 (.bin .add .none (.t 11) (xI 1)),
     S 6 (.mv (.t 12))]))))))
 (.seq (.ops [S 21 (.mv (.t 5)),
   S 4 (.mv (.t 21))])
 (.ret)))),
 [.tmp 4], false, true, false⟩
/- (*sibyl/queue.Desk).Held -/
def d_qHeld : DFn := ⟨1,
 .seq (.ops [S 2 (.mv (xI 0))])
 (.seq (.seq (.ops [S 8 (.mv (.t 0)),
   S 9 (.bin .eql .ptr (.t 8) (.v .nilp))])
 (.cond (.t 9)
  (.seq (.ops [S 2 (.mv (xI 0))])
  (.ret))
  (.skip)))
 (.seq (.ops [S 3 (.mv (xI 0))])
 (.seq (.seq (.ops [S 10 (.mv (.t 0)),
   S 11 (.nz (.t 10)),
   S 12 (.fld 7 (.t 11)),
   S 13 (.ld false 1 (.t 12))])
 (.ops [S 3 (.mnth (.t 13) (xI (-1)))]))
 (.seq (.ops [S 34 (.mv (.t 3)),
   S 2 (.mv (.t 34))])
 (.ret))))),
 [.tmp 2], false, false, false⟩
/- sibyl/sibylref06.Compare -/
def d_Compare6 : DFn := ⟨2,
 .seq (.ops [S 4 (.mv (xI 0))])
 (.seq (.seq (.ops [S 5 (.mv (xI 0))])
 (.block 0 (.loop [0, 1, 5] (.seq (.seq (.ops [S 7 (.mv (.t 5)),
     S 8 (.mv (.t 0)),
     S 9 (.len 0 (.t 8)),
     S 10 (.bin .lss .none (.t 7) (.t 9)),
     S 11 (.mv (.t 10)),
     ⟨(some 12), .mv (.t 5), (some (11, true)), []⟩,
     ⟨(some 13), .mv (.t 1), (some (11, true)), []⟩,
     ⟨(some 14), .len 0 (.t 13), (some (11, true)), []⟩,
     ⟨(some 15), .bin .lss .none (.t 12) (.t 14), (some (11, true)), []⟩,
     S 16 (.pick (.t 11) (.t 15) (xB false))])
   (.cond (.t 16)
    (.skip)
    (.exit 0)))
   (.seq (.block 1 (.seq (.ops [S 19 (.mv (.t 0)),
      S 20 (.mv (.t 5)),
      S 21 (.ixa 1 (.t 19) (.t 20)),
      S 22 (.ld false 1 (.t 21)),
      S 23 (.mv (.t 1)),
      S 24 (.mv (.t 5)),
      S 25 (.ixa 1 (.t 23) (.t 24)),
      S 26 (.ld false 1 (.t 25)),
      S 27 (.call n_row6 [(.t 22), (.t 26)]),
      S 6 (.mv (.t 27))])
    (.seq (.ops [S 28 (.mv (.t 6)),
      S 29 (.bin .neq .none (.t 28) (xI 0))])
    (.cond (.t 29)
     (.seq (.ops [S 30 (.mv (.t 6)),
       S 4 (.mv (.t 30))])
     (.ret))
     (.skip)))))
   (.ops [S 17 (.mv (.t 5)),
     S 18 (.bin .add .none (.t 17) (xI 1)),
     S 5 (.mv (.t 18))]))))))
 (.seq (.seq (.ops [S 31 (.mv (.t 0)),
   S 32 (.len 0 (.t 31)),
   S 33 (.mv (.t 1)),
   S 34 (.len 0 (.t 33)),
   S 35 (.bin .lss .none (.t 32) (.t 34))])
 (.cond (.t 35)
  (.seq (.ops [S 4 (.mv (xI (-1)))])
  (.ret))
  (.skip)))
 (.seq (.seq (.ops [S 36 (.mv (.t 0)),
   S 37 (.len 0 (.t 36)),
   S 38 (.mv (.t 1)),
   S 39 (.len 0 (.t 38)),
   S 40 (.bin .gtr .none (.t 37) (.t 39))])
 (.cond (.t 40)
  (.seq (.ops [S 4 (.mv (xI 1))])
  (.ret))
  (.skip)))
 (.seq (.ops [S 4 (.mv (xI 0))])
 (.ret))))),
 [.tmp 4], false, true, false⟩
/- sibyl/sibylref06.row -/
def d_row6 : DFn := ⟨2,
 .seq (.ops [S 4 (.mv (xI 0))])
 (.seq (.seq (.ops [S 5 (.mv (xI 0))])
 (.block 0 (.loop [0, 1, 5] (.seq (.seq (.ops [S 6 (.mv (.t 5)),
     S 7 (.mv (.t 0)),
     S 8 (.len 0 (.t 7)),
     S 9 (.bin .lss .none (.t 6) (.t 8)),
     S 10 (.mv (.t 9)),
     ⟨(some 11), .mv (.t 5), (some (10, true)), []⟩,
     ⟨(some 12), .mv (.t 1), (some (10, true)), []⟩,
     ⟨(some 13), .len 0 (.t 12), (some (10, true)), []⟩,
     ⟨(some 14), .bin .lss .none (.t 11) (.t 13), (some (10, true)), []⟩,
     S 15 (.pick (.t 10) (.t 14) (xB false))])
   (.cond (.t 15)
    (.skip)
    (.exit 0)))
   (.seq (.block 1 (.seq (.seq (.ops [S 18 (.mv (.t 0)),
      S 19 (.mv (.t 5)),
      S 20 (.ixa 1 (.t 18) (.t 19)),
      S 21 (.ld false 1 (.t 20)),
      S 22 (.mv (.t 1)),
      S 23 (.mv (.t 5)),
      S 24 (.ixa 1 (.t 22) (.t 23)),
      S 25 (.ld false 1 (.t 24)),
      S 26 (.bin .lss .none (.t 21) (.t 25))])
    (.cond (.t 26)
     (.seq (.ops [S 4 (.mv (xI (-1)))])
     (.ret))
     (.skip)))
    (.seq (.ops [S 27 (.mv (.t 0)),
      S 28 (.mv (.t 5)),
      S 29 (.ixa 1 (.t 27) (.t 28)),
      S 30 (.ld false 1 (.t 29)),
      S 31 (.mv (.t 1)),
      S 32 (.mv (.t 5)),
      S 33 (.ixa 1 (.t 31) (.t 32)),
      S 34 (.ld false 1 (.t 33)),
      S 35 (.bin .gtr .none (.t 30) (.t 34))])
    (.cond (.t 35)
     (.seq (.ops [S 4 (.mv (xI 1))])
     (.ret))
     (.skip)))))
   (.ops [S 16 (.mv (.t 5)),
     S 17 (.bin .add .none (.t 16) (xI 1)),
     S 5 (.mv (.t 17))]))))))
 (.seq (.seq (.ops [S 36 (.mv (.t 0)),
   S 37 (.len 0 (.t 36)),
   S 38 (.mv (.t 1)),
   S 39 (.len 0 (.t 38)),
   S 40 (.bin .lss .none (.t 37) (.t 39))])
 (.cond (.t 40)
  (.seq (.ops [S 4 (.mv (xI (-1)))])
  (.ret))
  (.skip)))
 (.seq (.seq (.ops [S 41 (.mv (.t 0)),
   S 42 (.len 0 (.t 41)),
   S 43 (.mv (.t 1)),
   S 44 (.len 0 (.t 43)),
   S 45 (.bin .gtr .none (.t 42) (.t 44))])
 (.cond (.t 45)
  (.seq (.ops [S 4 (.mv (xI 1))])
  (.ret))
  (.skip)))
 (.seq (.ops [S 4 (.mv (xI 0))])
 (.ret))))),
 [.tmp 4], false, true, false⟩
/- sibyl/sibyllaw18.QueueDoes -/
def d_QueueDoes : DFn := ⟨2,
 .seq (.ops [S 2 (.box true 2 (.t 0)),
   S 4 (.mv (xB false))])
 (.seq (.ops [S 17 (.call n_qawake []),
   S 5 (.mv (.t 17))])
 (.seq (.ops [S 18 (.ld true 2 (.t 2)),
   S 19 (.call n_config [(.t 18)]),
   S 20 (.call n_qNew [(.t 19)]),
   S 6 (.mv (.t 20))])
 (.seq (.ops [S 21 (.ld true 2 (.t 2)),
   S 22 (.call n_config [(.t 21)]),
   S 23 (.build [(eI 0), (eI 0), (eI 0), (eI 0), (eI 0), (eI 0), (eI 0), (.full [])] [(0, 7, (.t 22))]),
   S 24 (.box true 8 (.t 23)),
   S 7 (.mv (.t 24))])
 (.seq (.seq (.ops [S 8 (.mv (xI 0))])
 (.block 0 (.loop [1, 5, 6, 7, 8] (.seq (.seq (.ops [S 25 (.mv (.t 8)),
     S 26 (.mv (.t 1)),
     S 27 (.len 0 (.t 26)),
     S 28 (.bin .lss .none (.t 25) (.t 27)),
     S 29 (.mv (.t 28)),
     ⟨(some 30), .mv (.t 8), (some (29, true)), []⟩,
     ⟨(some 31), .bin .lss .none (.t 30) (xI 40), (some (29, true)), []⟩,
     S 32 (.pick (.t 29) (.t 31) (xB false))])
   (.cond (.t 32)
    (.skip)
    (.exit 0)))
   (.seq (.block 1 (.seq (.ops [S 36 (.mv (.t 1)),
      S 37 (.mv (.t 8)),
      S 38 (.ixa 6 (.t 36) (.t 37)),
      S 39 (.ld true 6 (.t 38)),
      S 40 (.mv (.t 8)),
      S 41 (.bin .add .none (.t 40) (xI 1)),
      S 42 (.call n_command [(.t 39), (.t 41)]),
      S 35 (.mv (.t 42)),
      S 43 (.ext (.t 35) 0),
      S 44 (.ext (.t 35) 1),
      S 9 (.new true [(eI 0), (eI 0), (eI 0), (eI 0), (eI 0), (eI 0), (eI 0), (eI 0), (eI 0), (eI 0), (eI 0), (.full []), (eI 0), (eB false)]),
      E (.st 14 (.t 9) (.t 43)),
      S 10 (.mv (.t 44))])
    (.seq (.ops [S 46 (.mv (.t 6)),
      S 47 (.mv (.t 8)),
      S 48 (.bin .add .none (.t 47) (xI 1)),
      S 49 (.ld true 14 (.t 9)),
      S 50 (.mv (.t 10)),
      S 51 (.call n_qDo [(.t 46), (.t 48), (.t 49), (.t 50)]),
      S 45 (.mv (.t 51)),
      S 52 (.ext (.t 45) 0),
      S 53 (.ext (.t 45) 1),
      S 11 (.new true [(eI 0), (eI 0), (.full [])]),
      E (.st 3 (.t 11) (.t 52)),
      S 12 (.mv (.t 53))])
    (.seq (.ops [S 54 (.mv (.t 7)),
      S 55 (.mv (.t 8)),
      S 56 (.bin .add .none (.t 55) (xI 1)),
      S 57 (.ld true 14 (.t 9)),
      S 58 (.mv (.t 10)),
      S 59 (.call n_rDo [(.t 54), (.t 56), (.t 57), (.t 58)]),
      S 13 (.new true [(eI 0), (eI 0), (.full []), (.full [])]),
      E (.st 4 (.t 13) (.t 59))])
    (.seq (.ops [S 60 (.ld true 3 (.t 11)),
      S 61 (.fld 0 (.t 13)),
      S 62 (.ld true 3 (.t 61)),
      S 63 (.call n_SameAnswer [(.t 60), (.t 62)]),
      S 14 (.mv (.t 63))])
    (.seq (.ops [S 64 (.mv (.t 12)),
      S 65 (.fld 3 (.t 13)),
      S 66 (.ld false 1 (.t 65)),
      S 67 (.call n_SameRefs [(.t 64), (.t 66)]),
      S 15 (.mv (.t 67))])
    (.seq (.seq (.ops [S 68 (.mv (.t 14)),
      S 69 (.un .not (.t 68)),
      S 70 (.mv (.t 69)),
      ⟨(some 71), .mv (.t 15), (some (70, false)), []⟩,
      ⟨(some 72), .un .not (.t 71), (some (70, false)), []⟩,
      S 73 (.pick (.t 70) (xB true) (.t 72)),
      S 74 (.mv (.t 73)),
      ⟨(some 75), .mv (.t 6), (some (74, false)), []⟩,
      ⟨(some 77), .mv (.t 7), (some (74, false)), []⟩,
      ⟨(some 76), .call n_qHeld [(.t 75)], (some (74, false)), []⟩,
      ⟨(some 78), .call n_rHeld [(.t 77)], (some (74, false)), []⟩,
      ⟨(some 79), .bin .neq .none (.t 76) (.t 78), (some (74, false)), []⟩,
      S 80 (.pick (.t 74) (xB true) (.t 79)),
      S 81 (.mv (.t 80)),
      ⟨(some 82), .mv (.t 6), (some (81, false)), []⟩,
      ⟨(some 84), .mv (.t 7), (some (81, false)), []⟩,
      ⟨(some 85), .nz (.t 84), (some (81, false)), []⟩,
      ⟨(some 86), .fld 7 (.t 85), (some (81, false)), []⟩,
      ⟨(some 87), .ld false 1 (.t 86), (some (81, false)), []⟩,
      ⟨(some 88), .len 0 (.t 87), (some (81, false)), []⟩,
      ⟨(some 83), .call n_qLive [(.t 82)], (some (81, false)), [(87, .ld false 1 (.t 86), (some (81, false)))]⟩,
      ⟨(some 89), .bin .neq .none (.t 83) (.t 88), (some (81, false)), []⟩,
      S 90 (.pick (.t 81) (xB true) (.t 89))])
    (.cond (.t 90)
     (.seq (.ops [S 4 (.mv (xB false))])
     (.ret))
     (.skip)))
    (.seq (.ops [S 16 (.mv (xI (-1)))])
    (.block 2 (.loop [1, 5, 6, 7, 8, 16] (.seq (.seq (.ops [S 91 (.mv (.t 16)),
        S 92 (.bin .lss .none (.t 91) (xI 13))])
      (.cond (.t 92)
       (.skip)
       (.exit 2)))
      (.seq (.block 3 (.seq (.ops [S 95 (.mv (.t 6)),
         S 96 (.mv (.t 16)),
         S 97 (.call n_qWaiting [(.t 95), (.t 96)]),
         S 98 (.mv (.t 7)),
         S 99 (.mv (.t 16)),
         S 100 (.call n_rWaiting [(.t 98), (.t 99)]),
         S 101 (.bin .neq .none (.t 97) (.t 100)),
         S 102 (.mv (.t 101)),
         ⟨(some 103), .mv (.t 6), (some (102, false)), []⟩,
         ⟨(some 104), .mv (.t 16), (some (102, false)), []⟩,
         ⟨(some 105), .call n_qLost [(.t 103), (.t 104)], (some (102, false)), []⟩,
         ⟨(some 106), .mv (.t 7), (some (102, false)), []⟩,
         ⟨(some 107), .mv (.t 16), (some (102, false)), []⟩,
         ⟨(some 108), .call n_rLost [(.t 106), (.t 107)], (some (102, false)), []⟩,
         ⟨(some 109), .bin .neq .bool (.t 105) (.t 108), (some (102, false)), []⟩,
         S 110 (.pick (.t 102) (xB true) (.t 109))])
       (.cond (.t 110)
        (.seq (.ops [S 4 (.mv (xB false))])
        (.ret))
        (.skip))))
      (.ops [S 93 (.mv (.t 16)),
        S 94 (.bin .add .none (.t 93) (xI 1)),
        S 16 (.mv (.t 94))])))))))))))))
   (.ops [S 33 (.mv (.t 8)),
     S 34 (.bin .add .none (.t 33) (xI 1)),
     S 8 (.mv (.t 34))]))))))
 (.seq (.ops [S 111 (.mv (.t 5)),
   S 4 (.mv (.t 111))])
 (.ret)))))),
 [.tmp 4], false, true, false⟩
/- (*sibyl/sibylref18.Desk).Do -/
def d_rDo : DFn := ⟨4,
 .seq (.ops [S 6 (.box true 14 (.t 2)),
   S 8 (.new true [(eI 0), (eI 0), (.full []), (.full [])])])
 (.seq (.ops [S 13 (.mv (.t 0)),
   S 14 (.fld 1 (.t 6)),
   S 15 (.ld false 1 (.t 14)),
   S 16 (.call n_qfind [(.t 13), (.t 15)]),
   S 9 (.mv (.t 16))])
 (.seq (.ops [S 17 (.build [(eI 0), (eI 0), (.full []), (.full [])] []),
   S 10 (.new true [(eI 0), (eI 0), (.full []), (.full [])]),
   E (.st 4 (.t 10) (.t 17))])
 (.seq (.seq (.ops [S 18 (.fld 0 (.t 6)),
   S 19 (.ld false 1 (.t 18))])
 (.block 0 (.seq (.ops [S 21 (.bin .eql .none (.t 19) (xI 2)),
    S 20 (.mv (.t 21))])
  (.cond (.t 20)
   (.seq (.seq (.ops [S 22 (.mv (.t 0)),
     S 23 (.nz (.t 22)),
     S 24 (.fld 7 (.t 23)),
     S 25 (.ld false 1 (.t 24)),
     S 26 (.len 0 (.t 25)),
     S 27 (.mv (.t 0)),
     S 28 (.nz (.t 27)),
     S 29 (.fld 0 (.t 28)),
     S 30 (.fld 3 (.t 29)),
     S 31 (.ld false 1 (.t 30)),
     S 32 (.bin .geq .none (.t 26) (.t 31))])
   (.cond (.t 32)
    (.seq (.ops [S 33 (.build [(eI 0), (eI 0), (.full [])] [(0, 1, (xI 16))]),
      S 34 (.build [(eI 0), (eI 0), (.full []), (.full [])] [(0, 3, (.t 33))]),
      E (.st 4 (.t 8) (.t 34))])
    (.ret))
    (.skip)))
   (.seq (.ops [S 35 (.mv (.t 0)),
     S 36 (.mv (.t 0)),
     S 37 (.nz (.t 36)),
     S 38 (.fld 7 (.t 37)),
     S 39 (.ld false 1 (.t 38)),
     S 40 (.mv (.t 1)),
     S 41 (.build [(eI 0), (.full []), (eB false)] [(0, 1, (.t 40))]),
     S 42 (.lit 3 true [[(eI 0), (.full []), (eB false)]] [(0, (.t 41))]),
     S 43 (.app 3 true 40 (.t 39) (.t 42)),
     S 44 (.nz (.t 35)),
     S 45 (.fld 7 (.t 44)),
     E (.st 1 (.t 45) (.t 43))])
   (.seq (.ops [S 46 (.mv (.t 1)),
     S 47 (.build [(eI 0), (eI 0), (.full [])] [(1, 1, (.t 46))]),
     S 48 (.build [(eI 0), (eI 0), (.full []), (.full [])] [(0, 3, (.t 47))]),
     E (.st 4 (.t 8) (.t 48))])
   (.ret))))
   (.seq (.ops [S 50 (.bin .eql .none (.t 19) (xI 3)),
     S 49 (.mv (.t 50))])
   (.cond (.t 49)
    (.seq (.seq (.ops [S 51 (.mv (.t 9)),
      S 52 (.bin .lss .none (.t 51) (xI 0))])
    (.cond (.t 52)
     (.seq (.ops [S 53 (.build [(eI 0), (eI 0), (.full [])] [(0, 1, (xI 15))]),
       S 54 (.build [(eI 0), (eI 0), (.full []), (.full [])] [(0, 3, (.t 53))]),
       E (.st 4 (.t 8) (.t 54))])
     (.ret))
     (.skip)))
    (.seq (.seq (.ops [S 11 (.mv (xI 0))])
    (.block 1 (.loop [0, 8, 9, 10, 11] (.seq (.seq (.ops [S 55 (.mv (.t 11)),
        S 56 (.mv (.t 0)),
        S 57 (.nz (.t 56)),
        S 58 (.fld 7 (.t 57)),
        S 59 (.ld false 1 (.t 58)),
        S 60 (.mv (.t 9)),
        S 61 (.ixa 3 (.t 59) (.t 60)),
        S 62 (.fld 1 (.t 61)),
        S 63 (.ld false 1 (.t 62)),
        S 64 (.len 0 (.t 63)),
        S 65 (.bin .lss .none (.t 55) (.t 64))])
      (.cond (.t 65)
       (.skip)
       (.exit 1)))
      (.seq (.block 2 (.ops [S 68 (.fld 3 (.t 10)),
         S 69 (.ld false 1 (.t 68)),
         S 70 (.mv (.t 0)),
         S 71 (.nz (.t 70)),
         S 72 (.fld 7 (.t 71)),
         S 73 (.ld false 1 (.t 72)),
         S 74 (.mv (.t 9)),
         S 75 (.ixa 3 (.t 73) (.t 74)),
         S 76 (.fld 1 (.t 75)),
         S 77 (.ld false 1 (.t 76)),
         S 78 (.mv (.t 11)),
         S 79 (.ixa 2 (.t 77) (.t 78)),
         S 80 (.fld 1 (.t 79)),
         S 81 (.ld false 1 (.t 80)),
         S 82 (.app 2 true 16 (.t 69) (.t 81)),
         S 83 (.fld 3 (.t 10)),
         E (.st 1 (.t 83) (.t 82))]))
      (.ops [S 66 (.mv (.t 11)),
        S 67 (.bin .add .none (.t 66) (xI 1)),
        S 11 (.mv (.t 67))]))))))
    (.seq (.ops [S 84 (.lit 3 true [] []),
      S 85 (.mv (.t 0)),
      S 86 (.nz (.t 85)),
      S 87 (.fld 7 (.t 86)),
      S 88 (.ld false 1 (.t 87)),
      S 89 (.mv (.t 9)),
      S 90 (.bin .add .none (.t 89) (xI 1)),
      S 91 (.slc 3 (.t 88) (some (.t 90)) none none),
      S 92 (.app 3 true 40 (.t 84) (.t 91)),
      S 12 (.mv (.t 92))])
    (.seq (.ops [S 93 (.mv (.t 0)),
      S 94 (.mv (.t 0)),
      S 95 (.nz (.t 94)),
      S 96 (.fld 7 (.t 95)),
      S 97 (.ld false 1 (.t 96)),
      S 98 (.mv (.t 9)),
      S 99 (.mv (.t 9)),
      S 100 (.slc 3 (.t 97) none (some (.t 98)) (some (.t 99))),
      S 101 (.mv (.t 12)),
      S 102 (.app 3 true 40 (.t 100) (.t 101)),
      S 103 (.nz (.t 93)),
      S 104 (.fld 7 (.t 103)),
      E (.st 1 (.t 104) (.t 102))])
    (.seq (.ops [S 105 (.ld true 4 (.t 10)),
      E (.st 4 (.t 8) (.t 105))])
    (.ret))))))
    (.seq (.ops [S 107 (.bin .eql .none (.t 19) (xI 1)),
      S 106 (.mv (.t 107))])
    (.cond (.t 106)
     (.seq (.ops [S 108 (.mv (.t 0)),
       S 109 (.mv (.t 1)),
       S 110 (.ld true 14 (.t 6)),
       S 111 (.mv (.t 3)),
       S 112 (.call n_rpublish [(.t 108), (.t 109), (.t 110), (.t 111)]),
       E (.st 4 (.t 8) (.t 112))])
     (.ret))
     (.seq (.ops [S 114 (.bin .eql .none (.t 19) (xI 4)),
       S 113 (.mv (.t 114))])
     (.cond (.t 113)
      (.seq (.ops [S 115 (.mv (.t 0)),
        S 116 (.ld true 14 (.t 6)),
        S 117 (.call n_rpoll [(.t 115), (.t 116)]),
        E (.st 4 (.t 8) (.t 117))])
      (.ret))
      (.seq (.ops [S 119 (.bin .eql .none (.t 19) (xI 5)),
        S 118 (.mv (.t 119))])
      (.cond (.t 118)
       (.seq (.ops [S 120 (.mv (.t 1)),
         S 121 (.build [(eI 0), (eI 0), (.full [])] [(1, 1, (.t 120))]),
         S 122 (.build [(eI 0), (eI 0), (.full []), (.full [])] [(0, 3, (.t 121))]),
         E (.st 4 (.t 8) (.t 122))])
       (.ret))
       (.skip)))))))))))))
 (.seq (.ops [S 123 (.build [(eI 0), (eI 0), (.full [])] [(0, 1, (xI 1))]),
   S 124 (.build [(eI 0), (eI 0), (.full []), (.full [])] [(0, 3, (.t 123))]),
   E (.st 4 (.t 8) (.t 124))])
 (.ret))))),
 [.cell 8 true 4], false, false, false⟩
/- (*sibyl/sibylref18.Desk).publish -/
def d_rpublish : DFn := ⟨4,
 .seq (.ops [S 6 (.box true 14 (.t 2)),
   S 8 (.new true [(eI 0), (eI 0), (.full []), (.full [])])])
 (.seq (.ops [S 16 (.mv (.t 1)),
   S 17 (.build [(eI 0), (eI 0), (.full [])] [(1, 1, (.t 16))]),
   S 18 (.build [(eI 0), (eI 0), (.full []), (.full [])] [(0, 3, (.t 17))]),
   S 9 (.new true [(eI 0), (eI 0), (.full []), (.full [])]),
   E (.st 4 (.t 9) (.t 18))])
 (.seq (.ops [S 19 (.mv (.t 3)),
   S 20 (.call n_merged [(.t 19)]),
   S 10 (.mv (.t 20))])
 (.seq (.seq (.ops [S 11 (.mv (xI 0))])
 (.block 0 (.loop [0, 3, 6, 8, 9, 10, 11] (.seq (.seq (.ops [S 21 (.mv (.t 11)),
     S 22 (.mv (.t 10)),
     S 23 (.len 0 (.t 22)),
     S 24 (.bin .lss .none (.t 21) (.t 23))])
   (.cond (.t 24)
    (.skip)
    (.exit 0)))
   (.seq (.block 1 (.seq (.ops [S 27 (.mv (.t 0)),
      S 28 (.mv (.t 10)),
      S 29 (.mv (.t 11)),
      S 30 (.ixa 3 (.t 28) (.t 29)),
      S 31 (.fld 0 (.t 30)),
      S 32 (.ld false 1 (.t 31)),
      S 33 (.call n_qfind [(.t 27), (.t 32)]),
      S 12 (.mv (.t 33))])
    (.seq (.ops [S 34 (.mv (.t 12)),
      S 35 (.bin .lss .none (.t 34) (xI 0)),
      S 36 (.mv (.t 35)),
      ⟨(some 37), .mv (.t 0), (some (36, false)), []⟩,
      ⟨(some 38), .nz (.t 37), (some (36, false)), []⟩,
      ⟨(some 39), .fld 7 (.t 38), (some (36, false)), []⟩,
      ⟨(some 40), .ld false 1 (.t 39), (some (36, false)), []⟩,
      ⟨(some 41), .mv (.t 12), (some (36, false)), []⟩,
      ⟨(some 42), .ixa 3 (.t 40) (.t 41), (some (36, false)), []⟩,
      ⟨(some 43), .fld 2 (.t 42), (some (36, false)), []⟩,
      ⟨(some 44), .ld false 1 (.t 43), (some (36, false)), []⟩,
      S 45 (.pick (.t 36) (xB true) (.t 44))])
    (.cond (.t 45)
     (.ops [S 46 (.fld 3 (.t 9)),
       S 47 (.ld false 1 (.t 46)),
       S 48 (.mv (.t 10)),
       S 49 (.mv (.t 11)),
       S 50 (.ixa 3 (.t 48) (.t 49)),
       S 51 (.fld 1 (.t 50)),
       S 52 (.fld 1 (.t 51)),
       S 53 (.ld false 1 (.t 52)),
       S 54 (.app 2 true 16 (.t 47) (.t 53)),
       S 55 (.fld 3 (.t 9)),
       E (.st 1 (.t 55) (.t 54))])
     (.seq (.ops [S 56 (.mv (.t 0)),
       S 57 (.nz (.t 56)),
       S 58 (.fld 7 (.t 57)),
       S 59 (.ld false 1 (.t 58)),
       S 60 (.mv (.t 12)),
       S 61 (.ixa 3 (.t 59) (.t 60)),
       S 62 (.fld 1 (.t 61)),
       S 63 (.ld false 1 (.t 62)),
       S 64 (.len 0 (.t 63)),
       S 65 (.mv (.t 0)),
       S 66 (.nz (.t 65)),
       S 67 (.fld 0 (.t 66)),
       S 68 (.fld 5 (.t 67)),
       S 69 (.ld false 1 (.t 68)),
       S 70 (.bin .geq .none (.t 64) (.t 69))])
     (.cond (.t 70)
      (.seq (.ops [S 71 (.mv (.t 0)),
        S 72 (.nz (.t 71)),
        S 73 (.fld 7 (.t 72)),
        S 74 (.ld false 1 (.t 73)),
        S 75 (.mv (.t 12)),
        S 76 (.ixa 3 (.t 74) (.t 75)),
        S 77 (.fld 2 (.t 76)),
        E (.st 1 (.t 77) (xB true))])
      (.ops [S 78 (.fld 3 (.t 9)),
        S 79 (.ld false 1 (.t 78)),
        S 80 (.mv (.t 10)),
        S 81 (.mv (.t 11)),
        S 82 (.ixa 3 (.t 80) (.t 81)),
        S 83 (.fld 1 (.t 82)),
        S 84 (.fld 1 (.t 83)),
        S 85 (.ld false 1 (.t 84)),
        S 86 (.app 2 true 16 (.t 79) (.t 85)),
        S 87 (.fld 3 (.t 9)),
        E (.st 1 (.t 87) (.t 86))]))
      (.ops [S 88 (.mv (.t 0)),
        S 89 (.nz (.t 88)),
        S 90 (.fld 7 (.t 89)),
        S 91 (.ld false 1 (.t 90)),
        S 92 (.mv (.t 12)),
        S 93 (.mv (.t 0)),
        S 94 (.nz (.t 93)),
        S 95 (.fld 7 (.t 94)),
        S 96 (.ld false 1 (.t 95)),
        S 97 (.mv (.t 12)),
        S 98 (.ixa 3 (.t 96) (.t 97)),
        S 99 (.fld 1 (.t 98)),
        S 100 (.ld false 1 (.t 99)),
        S 101 (.mv (.t 10)),
        S 102 (.mv (.t 11)),
        S 103 (.ixa 3 (.t 101) (.t 102)),
        S 104 (.fld 1 (.t 103)),
        S 105 (.ld true 2 (.t 104)),
        S 106 (.lit 2 true [[(.full []), (.full [])]] [(0, (.t 105))]),
        ⟨(some 107), .app 2 true 48 (.t 100) (.t 106), none, [(91, .ld false 1 (.t 90), none)]⟩,
        S 108 (.ixa 3 (.t 91) (.t 92)),
        S 109 (.fld 1 (.t 108)),
        E (.st 1 (.t 109) (.t 107))])))))))
   (.ops [S 25 (.mv (.t 11)),
     S 26 (.bin .add .none (.t 25) (xI 1)),
     S 11 (.mv (.t 26))]))))))
 (.seq (.seq (.ops [S 13 (.mv (xI 0))])
 (.block 2 (.loop [0, 3, 6, 8, 9, 13] (.seq (.seq (.ops [S 110 (.mv (.t 13)),
     S 111 (.mv (.t 3)),
     S 112 (.len 0 (.t 111)),
     S 113 (.bin .lss .none (.t 110) (.t 112))])
   (.cond (.t 113)
    (.skip)
    (.exit 2)))
   (.seq (.block 3 (.seq (.ops [S 14 (.mv (xI 0))])
    (.block 4 (.loop [0, 3, 6, 8, 9, 13, 14] (.seq (.seq (.ops [S 116 (.mv (.t 14)),
        S 117 (.mv (.t 3)),
        S 118 (.mv (.t 13)),
        S 119 (.ixa 4 (.t 117) (.t 118)),
        S 120 (.fld 1 (.t 119)),
        S 121 (.ld false 1 (.t 120)),
        S 122 (.len 0 (.t 121)),
        S 123 (.bin .lss .none (.t 116) (.t 122))])
      (.cond (.t 123)
       (.skip)
       (.exit 4)))
      (.seq (.block 5 (.seq (.ops [S 126 (.mv (.t 0)),
         S 127 (.mv (.t 3)),
         S 128 (.mv (.t 13)),
         S 129 (.ixa 4 (.t 127) (.t 128)),
         S 130 (.fld 1 (.t 129)),
         S 131 (.ld false 1 (.t 130)),
         S 132 (.mv (.t 14)),
         S 133 (.ixa 1 (.t 131) (.t 132)),
         S 134 (.ld false 1 (.t 133)),
         S 135 (.call n_qfind [(.t 126), (.t 134)]),
         S 15 (.mv (.t 135))])
       (.seq (.ops [S 136 (.mv (.t 15)),
         S 137 (.bin .geq .none (.t 136) (xI 0))])
       (.cond (.t 137)
        (.ops [S 138 (.mv (.t 0)),
          S 139 (.nz (.t 138)),
          S 140 (.fld 7 (.t 139)),
          S 141 (.ld false 1 (.t 140)),
          S 142 (.mv (.t 15)),
          S 143 (.ixa 3 (.t 141) (.t 142)),
          S 144 (.fld 2 (.t 143)),
          E (.st 1 (.t 144) (xB true))])
        (.skip)))))
      (.ops [S 124 (.mv (.t 14)),
        S 125 (.bin .add .none (.t 124) (xI 1)),
        S 14 (.mv (.t 125))])))))))
   (.ops [S 114 (.mv (.t 13)),
     S 115 (.bin .add .none (.t 114) (xI 1)),
     S 13 (.mv (.t 115))]))))))
 (.seq (.ops [S 145 (.fld 3 (.t 9)),
   S 146 (.ld false 1 (.t 145)),
   S 147 (.fld 9 (.t 6)),
   S 148 (.ld true 2 (.t 147)),
   S 149 (.lit 2 true [[(eI 0), (eI 0)]] [(0, (.t 148))]),
   S 150 (.app 2 true 16 (.t 146) (.t 149)),
   S 151 (.fld 3 (.t 9)),
   E (.st 1 (.t 151) (.t 150))])
 (.seq (.ops [S 152 (.ld true 4 (.t 9)),
   E (.st 4 (.t 8) (.t 152))])
 (.ret))))))),
 [.cell 8 true 4], false, false, false⟩
/- sibyl/sibylref18.merged -/
def d_merged : DFn := ⟨1,
 .seq (.ops [S 2 (.nils 3 true)])
 (.seq (.ops [S 3 (.nils 3 true)])
 (.seq (.seq (.ops [S 4 (.mv (xI 0))])
 (.block 0 (.loop [0, 3, 4] (.seq (.seq (.ops [S 9 (.mv (.t 4)),
     S 10 (.mv (.t 0)),
     S 11 (.len 0 (.t 10)),
     S 12 (.bin .lss .none (.t 9) (.t 11))])
   (.cond (.t 12)
    (.skip)
    (.exit 0)))
   (.seq (.block 1 (.seq (.ops [S 5 (.mv (xI 0))])
    (.block 2 (.loop [0, 3, 4, 5] (.seq (.seq (.ops [S 15 (.mv (.t 5)),
        S 16 (.mv (.t 0)),
        S 17 (.mv (.t 4)),
        S 18 (.ixa 4 (.t 16) (.t 17)),
        S 19 (.fld 0 (.t 18)),
        S 20 (.ld false 1 (.t 19)),
        S 21 (.len 0 (.t 20)),
        S 22 (.bin .lss .none (.t 15) (.t 21))])
      (.cond (.t 22)
       (.skip)
       (.exit 2)))
      (.seq (.block 3 (.seq (.ops [S 25 (.mv (.t 0)),
         S 26 (.mv (.t 4)),
         S 27 (.ixa 4 (.t 25) (.t 26)),
         S 28 (.fld 0 (.t 27)),
         S 29 (.ld false 1 (.t 28)),
         S 30 (.mv (.t 5)),
         S 31 (.ixa 3 (.t 29) (.t 30)),
         S 32 (.ld true 3 (.t 31)),
         S 6 (.new true [(eI 0), (.full []), (.full [])]),
         E (.st 3 (.t 6) (.t 32))])
       (.seq (.ops [S 33 (.mv (.t 3)),
         S 34 (.len 0 (.t 33)),
         S 7 (.mv (.t 34))])
       (.seq (.block 4 (.loop [0, 3, 4, 5, 6, 7] (.seq (.seq (.ops [S 35 (.mv (.t 7)),
           S 36 (.bin .gtr .none (.t 35) (xI 0)),
           S 37 (.mv (.t 36)),
           ⟨(some 38), .mv (.t 3), (some (37, true)), []⟩,
           ⟨(some 39), .mv (.t 7), (some (37, true)), []⟩,
           ⟨(some 40), .bin .sub .none (.t 39) (xI 1), (some (37, true)), []⟩,
           ⟨(some 41), .ixa 3 (.t 38) (.t 40), (some (37, true)), []⟩,
           ⟨(some 42), .fld 0 (.t 41), (some (37, true)), []⟩,
           ⟨(some 43), .ld false 1 (.t 42), (some (37, true)), []⟩,
           ⟨(some 44), .fld 0 (.t 6), (some (37, true)), []⟩,
           ⟨(some 45), .ld false 1 (.t 44), (some (37, true)), []⟩,
           ⟨(some 46), .bin .gtr .none (.t 43) (.t 45), (some (37, true)), []⟩,
           S 47 (.pick (.t 37) (.t 46) (xB false))])
         (.cond (.t 47)
          (.skip)
          (.exit 4)))
         (.block 5 (.ops [S 48 (.mv (.t 7)),
            S 49 (.bin .sub .none (.t 48) (xI 1)),
            S 7 (.mv (.t 49))])))))
       (.seq (.ops [S 50 (.lit 3 true [] []),
         S 51 (.mv (.t 3)),
         S 52 (.mv (.t 7)),
         S 53 (.slc 3 (.t 51) (some (.t 52)) none none),
         S 54 (.app 3 true 56 (.t 50) (.t 53)),
         S 8 (.mv (.t 54))])
       (.ops [S 55 (.mv (.t 3)),
         S 56 (.mv (.t 7)),
         S 57 (.mv (.t 7)),
         S 58 (.slc 3 (.t 55) none (some (.t 56)) (some (.t 57))),
         S 59 (.ld true 3 (.t 6)),
         S 60 (.lit 3 true [[(eI 0), (.full []), (.full [])]] [(0, (.t 59))]),
         S 62 (.mv (.t 8)),
         S 61 (.app 3 true 56 (.t 58) (.t 60)),
         S 63 (.app 3 true 56 (.t 61) (.t 62)),
         S 3 (.mv (.t 63))]))))))
      (.ops [S 23 (.mv (.t 5)),
        S 24 (.bin .add .none (.t 23) (xI 1)),
        S 5 (.mv (.t 24))])))))))
   (.ops [S 13 (.mv (.t 4)),
     S 14 (.bin .add .none (.t 13) (xI 1)),
     S 4 (.mv (.t 14))]))))))
 (.seq (.ops [S 64 (.mv (.t 3)),
   S 2 (.mv (.t 64))])
 (.ret)))),
 [.tmp 2], true, true, false⟩

def progList : List (Nat × DFn) := [(n_qawake, d_qawake), (n_qNew, d_qNew), (n_qDo, d_qDo), (n_config, d_config), (n_command, d_command), (n_qLive, d_qLive), (n_qWaiting, d_qWaiting), (n_qLost, d_qLost), (n_SameAnswer, d_SameAnswer), (n_SameRefs, d_SameRefs), (n_rHeld, d_rHeld), (n_rWaiting, d_rWaiting), (n_rLost, d_rLost), (n_hit, d_hit), (n_publish, d_publish), (n_poll, d_poll), (n_qrest, d_qrest), (n_qfind, d_qfind), (n_rpoll, d_rpoll), (n_publish1, d_publish1), (n_Merge, d_Merge), (n_publish2, d_publish2), (n_Merge1, d_Merge1), (n_Clone, d_Clone), (n_best, d_best), (n_Same, d_Same), (n_Count6, d_Count6), (n_qHeld, d_qHeld), (n_Compare6, d_Compare6), (n_row6, d_row6), (n_QueueDoes, d_QueueDoes), (n_rDo, d_rDo), (n_rpublish, d_rpublish), (n_merged, d_merged)]
end Dk.Q
