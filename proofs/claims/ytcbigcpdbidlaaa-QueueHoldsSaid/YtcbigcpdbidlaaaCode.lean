/- D's code of the functions, printed by a program of mine (DPrint). -/
import Derived.Test.YtcbigcpdbidlaaaJk5
set_option linter.unusedVariables false
set_option linter.unusedSimpArgs false
set_option linter.unusedSectionVars false
namespace Dk.Q
open Go Dk
abbrev n_QueueNone : Nat := 9
abbrev n_qawake : Nat := 31
abbrev n_qNew : Nat := 32
abbrev n_qDo : Nat := 33
abbrev n_config : Nat := 34
abbrev n_command : Nat := 35
abbrev n_qLive : Nat := 38
abbrev n_qWaiting : Nat := 39
abbrev n_qLost : Nat := 40
abbrev n_SameAnswer : Nat := 41
abbrev n_SameRefs : Nat := 43
abbrev n_rHeld : Nat := 44
abbrev n_rWaiting : Nat := 45
abbrev n_rLost : Nat := 46
abbrev n_hit : Nat := 53
abbrev n_publish : Nat := 55
abbrev n_poll : Nat := 56
abbrev n_qrest : Nat := 57
abbrev n_qfind : Nat := 58
abbrev n_rpoll : Nat := 60
abbrev n_publish1 : Nat := 62
abbrev n_Merge : Nat := 63
abbrev n_publish2 : Nat := 64
abbrev n_Merge1 : Nat := 67
abbrev n_Clone : Nat := 68
abbrev n_best : Nat := 69
abbrev n_Same : Nat := 54
abbrev n_Count6 : Nat := 37
abbrev n_qHeld : Nat := 36
abbrev n_QueueBound : Nat := 11
abbrev n_QueueApart : Nat := 12
abbrev n_Compare6 : Nat := 61
abbrev n_row6 : Nat := 66
abbrev n_QueueHolds : Nat := 10
@[reducible] instance globs : Globs := ⟨fun _ => none⟩
/- sibyl/sibyllaw18.QueueNone -/
def d_QueueNone : DFn := ⟨3,
 .seq (.ops [S 6 (.mv (xB false))])
 (.seq (.ops [S 21 (.call n_qawake []),
   S 7 (.mv (.t 21))])
 (.seq (.ops [S 22 (.build [(eI 0), (eI 0), (eI 0), (eI 0), (eI 0), (eI 0), (eI 0)] [(3, 1, (xI 1)), (5, 1, (xI 1))]),
   S 23 (.call n_qNew [(.t 22)]),
   S 8 (.mv (.t 23))])
 (.seq (.ops [S 24 (.mv (.t 8)),
   S 25 (.build [(eI 0), (eI 0), (eI 0), (eI 0), (eI 0), (eI 0), (eI 0), (eI 0), (eI 0), (eI 0), (eI 0), (.full []), (eI 0), (eB false)] [(0, 1, (xI 2))]),
   S 26 (.call n_qDo [(.t 24), (xI 5), (.t 25), (.v (.full []))])])
 (.seq (.ops [S 27 (.mv (.t 1)),
   S 9 (.mv (.t 27))])
 (.seq (.seq (.ops [S 28 (.mv (.t 9)),
   S 29 (.bin .gtr .none (.t 28) (xI 0))])
 (.cond (.t 29)
  (.ops [S 30 (.mv (.t 9)),
    S 31 (.bin .sub .none (xI 0) (.t 30)),
    S 9 (.mv (.t 31))])
  (.skip)))
 (.seq (.ops [S 33 (.mv (.t 8)),
   S 34 (.mv (.t 9)),
   S 35 (.build [(eI 0), (eI 0), (eI 0), (eI 0), (eI 0), (eI 0), (eI 0), (eI 0), (eI 0), (eI 0), (eI 0), (.full []), (eI 0), (eB false)] [(0, 1, (xI 4)), (1, 1, (xI 5)), (2, 1, (.t 34))]),
   S 36 (.call n_qDo [(.t 33), (xI 6), (.t 35), (.v (.full []))]),
   S 32 (.mv (.t 36)),
   S 37 (.ext (.t 32) 0),
   S 38 (.ext (.t 32) 1),
   S 10 (.new true [(eI 0), (eI 0), (.full [])]),
   E (.st 3 (.t 10) (.t 37)),
   S 11 (.mv (.t 38))])
 (.seq (.ops [S 40 (.mv (.t 8)),
   S 41 (.mv (.t 0)),
   S 42 (.build [(eI 0), (eI 0), (eI 0), (eI 0), (eI 0), (eI 0), (eI 0), (eI 0), (eI 0), (eI 0), (eI 0), (.full []), (eI 0), (eB false)] [(0, 1, (xI 4)), (1, 1, (.t 41)), (2, 1, (xI 1))]),
   S 43 (.call n_qDo [(.t 40), (xI 7), (.t 42), (.v (.full []))]),
   S 39 (.mv (.t 43)),
   S 44 (.ext (.t 39) 0),
   S 45 (.ext (.t 39) 1),
   S 12 (.new true [(eI 0), (eI 0), (.full [])]),
   E (.st 3 (.t 12) (.t 44)),
   S 13 (.mv (.t 45))])
 (.seq (.ops [S 47 (.mv (.t 8)),
   S 48 (.mv (.t 2)),
   S 49 (.bin .and .none (.t 48) (xI 65535)),
   S 50 (.bin .add .none (xI 6) (.t 49)),
   S 51 (.build [(eI 0), (eI 0), (eI 0), (eI 0), (eI 0), (eI 0), (eI 0), (eI 0), (eI 0), (eI 0), (eI 0), (.full []), (eI 0), (eB false)] [(0, 1, (.t 50))]),
   S 52 (.call n_qDo [(.t 47), (xI 8), (.t 51), (.v (.full []))]),
   S 46 (.mv (.t 52)),
   S 53 (.ext (.t 46) 0),
   S 54 (.ext (.t 46) 1),
   S 14 (.new true [(eI 0), (eI 0), (.full [])]),
   E (.st 3 (.t 14) (.t 53)),
   S 15 (.mv (.t 54))])
 (.seq (.ops [S 56 (.mv (.t 8)),
   S 57 (.build [(eI 0), (eI 0), (eI 0), (eI 0), (eI 0), (eI 0), (eI 0), (eI 0), (eI 0), (eI 0), (eI 0), (.full []), (eI 0), (eB false)] [(0, 1, (xI 2))]),
   S 58 (.call n_qDo [(.t 56), (xI 9), (.t 57), (.v (.full []))]),
   S 55 (.mv (.t 58)),
   S 59 (.ext (.t 55) 0),
   S 60 (.ext (.t 55) 1),
   S 16 (.new true [(eI 0), (eI 0), (.full [])]),
   E (.st 3 (.t 16) (.t 59)),
   S 17 (.mv (.t 60))])
 (.seq (.ops [S 62 (.mv (.t 8)),
   S 63 (.mv (.t 0)),
   S 64 (.build [(eI 0), (eI 0), (eI 0), (eI 0), (eI 0), (eI 0), (eI 0), (eI 0), (eI 0), (eI 0), (eI 0), (.full []), (eI 0), (eB false)] [(0, 1, (xI 3)), (1, 1, (.t 63))]),
   S 65 (.call n_qDo [(.t 62), (xI 10), (.t 64), (.v (.full []))]),
   S 61 (.mv (.t 65)),
   S 66 (.ext (.t 61) 0),
   S 67 (.ext (.t 61) 1),
   S 18 (.new true [(eI 0), (eI 0), (.full [])]),
   E (.st 3 (.t 18) (.t 66)),
   S 19 (.mv (.t 67))])
 (.seq (.ops [S 20 (.mv (xI 15))])
 (.seq (.seq (.ops [S 68 (.mv (.t 0)),
   S 69 (.bin .eql .none (.t 68) (xI 5))])
 (.cond (.t 69)
  (.ops [S 20 (.mv (xI 0))])
  (.skip)))
 (.seq (.ops [S 70 (.mv (.t 7)),
   S 71 (.mv (.t 70)),
   ⟨(some 72), .fld 0 (.t 10), (some (71, true)), []⟩,
   ⟨(some 73), .ld false 1 (.t 72), (some (71, true)), []⟩,
   ⟨(some 74), .bin .eql .none (.t 73) (xI 1), (some (71, true)), []⟩,
   S 75 (.pick (.t 71) (.t 74) (xB false)),
   S 76 (.mv (.t 75)),
   ⟨(some 77), .fld 0 (.t 12), (some (76, true)), []⟩,
   ⟨(some 78), .ld false 1 (.t 77), (some (76, true)), []⟩,
   ⟨(some 79), .mv (.t 20), (some (76, true)), []⟩,
   ⟨(some 80), .bin .eql .none (.t 78) (.t 79), (some (76, true)), []⟩,
   S 81 (.pick (.t 76) (.t 80) (xB false)),
   S 82 (.mv (.t 81)),
   ⟨(some 83), .fld 0 (.t 14), (some (82, true)), []⟩,
   ⟨(some 84), .ld false 1 (.t 83), (some (82, true)), []⟩,
   ⟨(some 85), .bin .eql .none (.t 84) (xI 1), (some (82, true)), []⟩,
   S 86 (.pick (.t 82) (.t 85) (xB false)),
   S 87 (.mv (.t 86)),
   ⟨(some 88), .fld 0 (.t 16), (some (87, true)), []⟩,
   ⟨(some 89), .ld false 1 (.t 88), (some (87, true)), []⟩,
   ⟨(some 90), .bin .eql .none (.t 89) (xI 16), (some (87, true)), []⟩,
   S 91 (.pick (.t 87) (.t 90) (xB false)),
   S 92 (.mv (.t 91)),
   ⟨(some 93), .fld 0 (.t 18), (some (92, true)), []⟩,
   ⟨(some 94), .ld false 1 (.t 93), (some (92, true)), []⟩,
   ⟨(some 95), .mv (.t 20), (some (92, true)), []⟩,
   ⟨(some 96), .bin .eql .none (.t 94) (.t 95), (some (92, true)), []⟩,
   S 97 (.pick (.t 92) (.t 96) (xB false)),
   S 98 (.mv (.t 97)),
   ⟨(some 99), .mv (.t 11), (some (98, true)), []⟩,
   ⟨(some 100), .len 0 (.t 99), (some (98, true)), []⟩,
   ⟨(some 101), .mv (.t 13), (some (98, true)), []⟩,
   ⟨(some 102), .len 0 (.t 101), (some (98, true)), []⟩,
   ⟨(some 103), .bin .add .none (.t 100) (.t 102), (some (98, true)), []⟩,
   ⟨(some 104), .mv (.t 15), (some (98, true)), []⟩,
   ⟨(some 105), .len 0 (.t 104), (some (98, true)), []⟩,
   ⟨(some 106), .bin .add .none (.t 103) (.t 105), (some (98, true)), []⟩,
   ⟨(some 107), .mv (.t 17), (some (98, true)), []⟩,
   ⟨(some 108), .len 0 (.t 107), (some (98, true)), []⟩,
   ⟨(some 109), .bin .add .none (.t 106) (.t 108), (some (98, true)), []⟩,
   ⟨(some 110), .mv (.t 19), (some (98, true)), []⟩,
   ⟨(some 111), .len 0 (.t 110), (some (98, true)), []⟩,
   ⟨(some 112), .bin .add .none (.t 109) (.t 111), (some (98, true)), []⟩,
   ⟨(some 113), .bin .eql .none (.t 112) (xI 0), (some (98, true)), []⟩,
   S 114 (.pick (.t 98) (.t 113) (xB false)),
   S 6 (.mv (.t 114))])
 (.ret)))))))))))))),
 [.tmp 6], false, true, false⟩
/- sibyl/sibyllaw18.awake -/
def d_qawake : DFn := ⟨0,
 .seq (.ops [S 0 (.mv (xB false))])
 (.seq (.ops [S 13 (.build [(eI 0), (eI 0), (eI 0), (eI 0), (eI 0), (eI 0), (eI 0)] [(3, 1, (xI 2)), (5, 1, (xI 1))]),
   S 14 (.call n_qNew [(.t 13)]),
   S 1 (.mv (.t 14))])
 (.seq (.ops [S 16 (.mv (.t 1)),
   S 17 (.build [(eI 0), (eI 0), (eI 0), (eI 0), (eI 0), (eI 0), (eI 0), (eI 0), (eI 0), (eI 0), (eI 0), (.full []), (eI 0), (eB false)] [(0, 1, (xI 2))]),
   S 18 (.call n_qDo [(.t 16), (xI 1), (.t 17), (.v (.full []))]),
   S 15 (.mv (.t 18)),
   S 19 (.ext (.t 15) 0),
   S 20 (.ext (.t 15) 1),
   S 2 (.new true [(eI 0), (eI 0), (.full [])]),
   E (.st 3 (.t 2) (.t 19)),
   S 3 (.mv (.t 20))])
 (.seq (.ops [S 22 (.mv (.t 1)),
   S 23 (.build [(eI 0), (eI 0)] [(0, 1, (xI 9))]),
   S 24 (.build [(eI 0), (eI 0), (eI 0), (eI 0), (eI 0), (eI 0), (eI 0), (eI 0), (eI 0), (eI 0), (eI 0), (.full []), (eI 0), (eB false)] [(0, 1, (xI 1)), (9, 2, (.t 23))]),
   S 25 (.call n_hit [(xI 1), (xI 5)]),
   S 26 (.call n_hit [(xI 1), (xI 6)]),
   S 27 (.lit 3 true [[(eI 0), (.full []), (.full [])], [(eI 0), (.full []), (.full [])]] [(0, (.t 25)), (1, (.t 26))]),
   S 28 (.build [(.full []), (.full []), (.full []), (.full [])] [(0, 1, (.t 27))]),
   S 29 (.lit 4 true [[(.full []), (.full []), (.full []), (.full [])]] [(0, (.t 28))]),
   S 30 (.call n_qDo [(.t 22), (xI 2), (.t 24), (.t 29)]),
   S 21 (.mv (.t 30)),
   S 31 (.ext (.t 21) 0),
   S 32 (.ext (.t 21) 1),
   S 4 (.new true [(eI 0), (eI 0), (.full [])]),
   E (.st 3 (.t 4) (.t 31)),
   S 5 (.mv (.t 32))])
 (.seq (.ops [S 34 (.mv (.t 1)),
   S 35 (.build [(eI 0), (eI 0), (eI 0), (eI 0), (eI 0), (eI 0), (eI 0), (eI 0), (eI 0), (eI 0), (eI 0), (.full []), (eI 0), (eB false)] [(0, 1, (xI 4)), (1, 1, (xI 1)), (2, 1, (xI 5))]),
   S 36 (.call n_qDo [(.t 34), (xI 3), (.t 35), (.v (.full []))]),
   S 33 (.mv (.t 36)),
   S 37 (.ext (.t 33) 0),
   S 38 (.ext (.t 33) 1),
   S 6 (.new true [(eI 0), (eI 0), (.full [])]),
   E (.st 3 (.t 6) (.t 37)),
   S 7 (.mv (.t 38))])
 (.seq (.ops [S 40 (.mv (.t 1)),
   S 41 (.build [(eI 0), (eI 0), (eI 0), (eI 0), (eI 0), (eI 0), (eI 0), (eI 0), (eI 0), (eI 0), (eI 0), (.full []), (eI 0), (eB false)] [(0, 1, (xI 4)), (1, 1, (xI 1)), (2, 1, (xI 5))]),
   S 42 (.call n_qDo [(.t 40), (xI 4), (.t 41), (.v (.full []))]),
   S 39 (.mv (.t 42)),
   S 43 (.ext (.t 39) 0),
   S 44 (.ext (.t 39) 1),
   S 8 (.new true [(eI 0), (eI 0), (.full [])]),
   E (.st 3 (.t 8) (.t 43)),
   S 9 (.mv (.t 44))])
 (.seq (.ops [S 45 (.mv (.t 5)),
   S 46 (.build [(eI 0), (eI 0)] [(0, 1, (xI 6))]),
   S 47 (.build [(eI 0), (eI 0)] [(0, 1, (xI 9))]),
   S 48 (.lit 2 true [[(eI 0), (eI 0)], [(eI 0), (eI 0)]] [(0, (.t 46)), (1, (.t 47))]),
   S 49 (.call n_SameRefs [(.t 45), (.t 48)]),
   S 10 (.mv (.t 49))])
 (.seq (.ops [S 50 (.mv (.t 7)),
   S 51 (.build [(eI 0), (eI 0)] [(0, 1, (xI 5))]),
   S 52 (.lit 2 true [[(eI 0), (eI 0)]] [(0, (.t 51))]),
   S 53 (.call n_SameRefs [(.t 50), (.t 52)]),
   S 11 (.mv (.t 53))])
 (.seq (.ops [S 54 (.fld 2 (.t 6)),
   S 55 (.ld false 1 (.t 54)),
   S 56 (.lit 1 false [[(eI 0)]] [(0, (xI 5))]),
   S 57 (.lit 1 false [[(.full [])]] [(0, (.t 56))]),
   S 58 (.lit 1 false [[(.full [])]] [(0, (.t 57))]),
   S 59 (.call n_Same [(.t 55), (.t 58)]),
   S 12 (.mv (.t 59))])
 (.seq (.ops [S 60 (.fld 1 (.t 2)),
   S 61 (.ld false 1 (.t 60)),
   S 62 (.bin .eql .none (.t 61) (xI 1)),
   S 63 (.mv (.t 62)),
   ⟨(some 64), .mv (.t 10), (some (63, true)), []⟩,
   S 65 (.pick (.t 63) (.t 64) (xB false)),
   S 66 (.mv (.t 65)),
   ⟨(some 67), .mv (.t 11), (some (66, true)), []⟩,
   S 68 (.pick (.t 66) (.t 67) (xB false)),
   S 69 (.mv (.t 68)),
   ⟨(some 70), .mv (.t 12), (some (69, true)), []⟩,
   S 71 (.pick (.t 69) (.t 70) (xB false)),
   S 72 (.mv (.t 71)),
   ⟨(some 73), .fld 0 (.t 8), (some (72, true)), []⟩,
   ⟨(some 74), .ld false 1 (.t 73), (some (72, true)), []⟩,
   ⟨(some 75), .bin .eql .none (.t 74) (xI 20), (some (72, true)), []⟩,
   S 76 (.pick (.t 72) (.t 75) (xB false)),
   S 0 (.mv (.t 76))])
 (.ret)))))))))),
 [.tmp 0], false, true, false⟩
/- sibyl/queue.New -/
def d_qNew : DFn := ⟨1,
 .seq (.ops [S 1 (.box true 7 (.t 0)),
   S 2 (.mv (.v .nilp))])
 (.seq (.seq (.ops [S 3 (.fld 3 (.t 1)),
   S 4 (.ld false 1 (.t 3)),
   S 5 (.bin .lss .none (.t 4) (xI 1)),
   S 6 (.mv (.t 5)),
   ⟨(some 7), .fld 3 (.t 1), (some (6, false)), []⟩,
   ⟨(some 8), .ld false 1 (.t 7), (some (6, false)), []⟩,
   ⟨(some 9), .bin .gtr .none (.t 8) (xI 4096), (some (6, false)), []⟩,
   S 10 (.pick (.t 6) (xB true) (.t 9)),
   S 11 (.mv (.t 10)),
   ⟨(some 12), .fld 5 (.t 1), (some (11, false)), []⟩,
   ⟨(some 13), .ld false 1 (.t 12), (some (11, false)), []⟩,
   ⟨(some 14), .bin .lss .none (.t 13) (xI 1), (some (11, false)), []⟩,
   S 15 (.pick (.t 11) (xB true) (.t 14)),
   S 16 (.mv (.t 15)),
   ⟨(some 17), .fld 5 (.t 1), (some (16, false)), []⟩,
   ⟨(some 18), .ld false 1 (.t 17), (some (16, false)), []⟩,
   ⟨(some 19), .bin .gtr .none (.t 18) (xI 4096), (some (16, false)), []⟩,
   S 20 (.pick (.t 16) (xB true) (.t 19))])
 (.cond (.t 20)
  (.seq (.ops [S 2 (.mv (.v .nilp))])
  (.ret))
  (.skip)))
 (.seq (.ops [S 21 (.ld true 7 (.t 1)),
   S 22 (.mkmap),
   S 23 (.build [(eI 0), (eI 0), (eI 0), (eI 0), (eI 0), (eI 0), (eI 0), .nilmap] [(0, 7, (.t 21)), (7, 1, (.t 22))]),
   S 24 (.box true 8 (.t 23)),
   S 2 (.mv (.t 24))])
 (.ret))),
 [.tmp 2], false, false, false⟩
/- (*sibyl/queue.Desk).Do -/
def d_qDo : DFn := ⟨4,
 .seq (.ops [S 6 (.box true 14 (.t 2)),
   S 8 (.new true [(eI 0), (eI 0), (.full [])]),
   S 9 (.nils 2 true)])
 (.seq (.seq (.ops [S 14 (.mv (.t 0)),
   S 15 (.bin .eql .ptr (.t 14) (.v .nilp))])
 (.cond (.t 15)
  (.seq (.ops [S 16 (.build [(eI 0), (eI 0), (.full [])] [(0, 1, (xI 1))]),
    E (.st 3 (.t 8) (.t 16)),
    S 9 (.nils 2 true)])
  (.ret))
  (.skip)))
 (.seq (.seq (.ops [S 17 (.fld 0 (.t 6)),
   S 18 (.ld false 1 (.t 17))])
 (.block 0 (.seq (.ops [S 20 (.bin .eql .none (.t 18) (xI 2)),
    S 19 (.mv (.t 20))])
  (.cond (.t 19)
   (.seq (.seq (.ops [S 21 (.mv (.t 0)),
     S 22 (.nz (.t 21)),
     S 23 (.fld 7 (.t 22)),
     S 24 (.ld false 1 (.t 23)),
     S 25 (.len 2 (.t 24)),
     S 26 (.mv (.t 0)),
     S 27 (.nz (.t 26)),
     S 28 (.fld 0 (.t 27)),
     S 29 (.fld 3 (.t 28)),
     S 30 (.ld false 1 (.t 29)),
     S 31 (.bin .geq .none (.t 25) (.t 30))])
   (.cond (.t 31)
    (.seq (.ops [S 32 (.build [(eI 0), (eI 0), (.full [])] [(0, 1, (xI 16))]),
      E (.st 3 (.t 8) (.t 32)),
      S 9 (.nils 2 true)])
    (.ret))
    (.skip)))
   (.seq (.ops [S 33 (.mv (.t 0)),
     S 34 (.nz (.t 33)),
     S 35 (.fld 7 (.t 34)),
     S 36 (.ld false 1 (.t 35)),
     S 37 (.mv (.t 1)),
     S 38 (.build [(.full []), (eB false)] []),
     S 39 (.box true 2 (.t 38)),
     E (.upd .int (.t 36) (.t 37) (.t 39))])
   (.seq (.ops [S 40 (.mv (.t 1)),
     S 41 (.build [(eI 0), (eI 0), (.full [])] [(1, 1, (.t 40))]),
     E (.st 3 (.t 8) (.t 41)),
     S 9 (.nils 2 true)])
   (.ret))))
   (.seq (.ops [S 43 (.bin .eql .none (.t 18) (xI 3)),
     S 42 (.mv (.t 43))])
   (.cond (.t 42)
    (.seq (.ops [S 44 (.mv (.t 0)),
      S 45 (.nz (.t 44)),
      S 46 (.fld 7 (.t 45)),
      S 47 (.ld false 1 (.t 46)),
      S 48 (.fld 1 (.t 6)),
      S 49 (.ld false 1 (.t 48)),
      S 50 (.look .int .nilp false (.t 47) (.t 49)),
      S 10 (.mv (.t 50))])
    (.seq (.seq (.ops [S 51 (.mv (.t 10)),
      S 52 (.bin .eql .ptr (.t 51) (.v .nilp))])
    (.cond (.t 52)
     (.seq (.ops [S 53 (.build [(eI 0), (eI 0), (.full [])] [(0, 1, (xI 15))]),
       E (.st 3 (.t 8) (.t 53)),
       S 9 (.nils 2 true)])
     (.ret))
     (.skip)))
    (.seq (.ops [S 11 (.nils 2 true)])
    (.seq (.seq (.ops [S 54 (.mv (.t 10)),
      S 55 (.nz (.t 54)),
      S 56 (.fld 0 (.t 55)),
      S 57 (.ld false 1 (.t 56)),
      S 58 (.len 0 (.t 57)),
      S 59 (.mv (xI 0))])
    (.block 1 (.loop [0, 6, 8, 11, 57, 58, 59] (.seq (.ops [S 60 (.bin .lss .none (.t 59) (.t 58))])
      (.seq (.cond (.t 60)
       (.skip)
       (.exit 1))
      (.seq (.block 2 (.seq (.ops [S 61 (.ixa 2 (.t 57) (.t 59)),
         S 62 (.ld true 2 (.t 61)),
         S 13 (.new true [(.full []), (.full [])]),
         E (.st 2 (.t 13) (.t 62))])
       (.ops [S 63 (.mv (.t 11)),
         S 64 (.fld 1 (.t 13)),
         S 65 (.ld false 1 (.t 64)),
         S 66 (.app 2 true 16 (.t 63) (.t 65)),
         S 11 (.mv (.t 66))])))
      (.ops [S 67 (.bin .add .none (.t 59) (xI 1)),
        S 59 (.mv (.t 67))])))))))
    (.seq (.ops [S 68 (.mv (.t 0)),
      S 69 (.nz (.t 68)),
      S 70 (.fld 7 (.t 69)),
      S 71 (.ld false 1 (.t 70)),
      S 72 (.fld 1 (.t 6)),
      S 73 (.ld false 1 (.t 72)),
      E (.del .int (.t 71) (.t 73))])
    (.seq (.ops [S 74 (.build [(eI 0), (eI 0), (.full [])] []),
      S 75 (.mv (.t 11)),
      E (.st 3 (.t 8) (.t 74)),
      S 9 (.mv (.t 75))])
    (.ret)))))))
    (.seq (.ops [S 77 (.bin .eql .none (.t 18) (xI 1)),
      S 76 (.mv (.t 77))])
    (.cond (.t 76)
     (.seq (.ops [S 78 (.mv (.t 1)),
       S 79 (.build [(eI 0), (eI 0), (.full [])] [(1, 1, (.t 78))]),
       S 80 (.mv (.t 0)),
       S 81 (.ld true 14 (.t 6)),
       S 82 (.mv (.t 3)),
       S 83 (.call n_publish [(.t 80), (.t 81), (.t 82)]),
       E (.st 3 (.t 8) (.t 79)),
       S 9 (.mv (.t 83))])
     (.ret))
     (.seq (.ops [S 85 (.bin .eql .none (.t 18) (xI 4)),
       S 84 (.mv (.t 85))])
     (.cond (.t 84)
      (.seq (.ops [S 86 (.mv (.t 0)),
        S 87 (.ld true 14 (.t 6)),
        S 88 (.call n_poll [(.t 86), (.t 87)]),
        S 89 (.ext (.t 88) 0),
        S 90 (.ext (.t 88) 1),
        E (.st 3 (.t 8) (.t 89)),
        S 9 (.mv (.t 90))])
      (.ret))
      (.seq (.ops [S 92 (.bin .eql .none (.t 18) (xI 5)),
        S 91 (.mv (.t 92))])
      (.cond (.t 91)
       (.seq (.ops [S 93 (.mv (.t 1)),
         S 94 (.build [(eI 0), (eI 0), (.full [])] [(1, 1, (.t 93))]),
         E (.st 3 (.t 8) (.t 94)),
         S 9 (.nils 2 true)])
       (.ret))
       (.skip)))))))))))))
 (.seq (.ops [S 95 (.build [(eI 0), (eI 0), (.full [])] [(0, 1, (xI 1))]),
   E (.st 3 (.t 8) (.t 95)),
   S 9 (.nils 2 true)])
 (.ret)))),
 [.cell 8 true 3, .tmp 9], false, false, true⟩
/- sibyl/sibyllaw18.config -/
def d_config : DFn := ⟨1,
 .seq (.ops [S 1 (.box true 2 (.t 0)),
   S 2 (.new true [(eI 0), (eI 0), (eI 0), (eI 0), (eI 0), (eI 0), (eI 0)])])
 (.seq (.ops [S 3 (.ixp 2 1 (.t 1) (xI 0)),
   S 4 (.ld false 1 (.t 3)),
   S 7 (.ixp 2 1 (.t 1) (xI 1)),
   S 8 (.ld false 1 (.t 7)),
   ⟨(some 5), .call n_qrest [(.t 4), (xI 4)], none, [(8, .ld false 1 (.t 7), none)]⟩,
   S 6 (.bin .add .none (xI 1) (.t 5)),
   S 9 (.call n_qrest [(.t 8), (xI 6)]),
   S 10 (.bin .add .none (xI 1) (.t 9)),
   S 11 (.build [(eI 0), (eI 0), (eI 0), (eI 0), (eI 0), (eI 0), (eI 0)] [(3, 1, (.t 6)), (5, 1, (.t 10))]),
   E (.st 7 (.t 2) (.t 11))])
 (.ret)),
 [.cell 2 true 7], false, true, false⟩
/- (sibyl/sibyllaw18.Act).command -/
def d_command : DFn := ⟨2,
 .seq (.ops [S 2 (.box true 6 (.t 0)),
   S 4 (.new true [(eI 0), (eI 0), (eI 0), (eI 0), (eI 0), (eI 0), (eI 0), (eI 0), (eI 0), (eI 0), (eI 0), (.full []), (eI 0), (eB false)]),
   S 5 (.nils 4 true)])
 (.seq (.ops [S 14 (.fld 1 (.t 2)),
   S 15 (.ld false 1 (.t 14)),
   S 16 (.call n_qrest [(.t 15), (xI 12)]),
   S 6 (.mv (.t 16))])
 (.seq (.seq (.ops [S 17 (.fld 0 (.t 2)),
   S 18 (.ld false 1 (.t 17)),
   S 19 (.call n_qrest [(.t 18), (xI 8)])])
 (.block 0 (.seq (.ops [S 21 (.bin .eql .none (.t 19) (xI 0)),
    S 20 (.mv (.t 21))])
  (.cond (.t 20)
   (.seq (.ops [S 22 (.build [(eI 0), (eI 0), (eI 0), (eI 0), (eI 0), (eI 0), (eI 0), (eI 0), (eI 0), (eI 0), (eI 0), (.full []), (eI 0), (eB false)] [(0, 1, (xI 2))]),
     E (.st 14 (.t 4) (.t 22)),
     S 5 (.nils 4 true)])
   (.ret))
   (.seq (.ops [S 24 (.bin .eql .none (.t 19) (xI 1)),
     S 23 (.mv (.t 24))])
   (.cond (.t 23)
    (.seq (.ops [S 25 (.mv (.t 6)),
      S 26 (.build [(eI 0), (eI 0), (eI 0), (eI 0), (eI 0), (eI 0), (eI 0), (eI 0), (eI 0), (eI 0), (eI 0), (.full []), (eI 0), (eB false)] [(0, 1, (xI 3)), (1, 1, (.t 25))]),
      E (.st 14 (.t 4) (.t 26)),
      S 5 (.nils 4 true)])
    (.ret))
    (.seq (.seq (.ops [S 28 (.bin .eql .none (.t 19) (xI 2)),
      S 27 (.mv (.t 28))])
    (.cond (.t 27)
     (.skip)
     (.ops [S 29 (.bin .eql .none (.t 19) (xI 3)),
       S 27 (.mv (.t 29))])))
    (.cond (.t 27)
     (.seq (.ops [S 30 (.mv (.t 6)),
       S 31 (.fld 2 (.t 2)),
       S 32 (.ld false 1 (.t 31)),
       S 33 (.call n_qrest [(.t 32), (xI 5)]),
       S 34 (.bin .sub .none (.t 33) (xI 1)),
       S 35 (.build [(eI 0), (eI 0), (eI 0), (eI 0), (eI 0), (eI 0), (eI 0), (eI 0), (eI 0), (eI 0), (eI 0), (.full []), (eI 0), (eB false)] [(0, 1, (xI 4)), (1, 1, (.t 30)), (2, 1, (.t 34))]),
       E (.st 14 (.t 4) (.t 35)),
       S 5 (.nils 4 true)])
     (.ret))
     (.seq (.ops [S 37 (.bin .eql .none (.t 19) (xI 4)),
       S 36 (.mv (.t 37))])
     (.cond (.t 36)
      (.seq (.ops [S 38 (.build [(eI 0), (eI 0), (eI 0), (eI 0), (eI 0), (eI 0), (eI 0), (eI 0), (eI 0), (eI 0), (eI 0), (.full []), (eI 0), (eB false)] [(0, 1, (xI 5))]),
        E (.st 14 (.t 4) (.t 38)),
        S 5 (.nils 4 true)])
      (.ret))
      (.seq (.ops [S 40 (.bin .eql .none (.t 19) (xI 5)),
        S 39 (.mv (.t 40))])
      (.cond (.t 39)
       (.seq (.ops [S 41 (.fld 2 (.t 2)),
         S 42 (.ld false 1 (.t 41)),
         S 43 (.call n_qrest [(.t 42), (xI 9)]),
         S 44 (.bin .add .none (xI 6) (.t 43)),
         S 45 (.build [(eI 0), (eI 0), (eI 0), (eI 0), (eI 0), (eI 0), (eI 0), (eI 0), (eI 0), (eI 0), (eI 0), (.full []), (eI 0), (eB false)] [(0, 1, (.t 44))]),
         E (.st 14 (.t 4) (.t 45)),
         S 5 (.nils 4 true)])
       (.ret))
       (.skip)))))))))))))
 (.seq (.ops [S 46 (.mks 4 true 96 [(.full []), (.full []), (.full []), (.full [])] (xI 3) (xI 3)),
   S 7 (.mv (.t 46))])
 (.seq (.seq (.ops [S 8 (.mv (xI 0))])
 (.block 1 (.loop [1, 2, 4, 7, 8] (.seq (.seq (.ops [S 47 (.mv (.t 8)),
     S 48 (.fld 3 (.t 2)),
     S 49 (.ld false 1 (.t 48)),
     S 50 (.len 0 (.t 49)),
     S 51 (.bin .lss .none (.t 47) (.t 50)),
     S 52 (.mv (.t 51)),
     ⟨(some 53), .mv (.t 8), (some (52, true)), []⟩,
     ⟨(some 54), .bin .lss .none (.t 53) (xI 6), (some (52, true)), []⟩,
     S 55 (.pick (.t 52) (.t 54) (xB false))])
   (.cond (.t 55)
    (.skip)
    (.exit 1)))
   (.seq (.block 2 (.seq (.ops [S 58 (.fld 5 (.t 2)),
      S 59 (.ld false 1 (.t 58)),
      S 60 (.mv (.t 8)),
      S 61 (.bin .add .none (.t 59) (.t 60)),
      S 62 (.call n_qrest [(.t 61), (xI 3)]),
      S 9 (.mv (.t 62))])
    (.seq (.ops [S 63 (.fld 3 (.t 2)),
      S 64 (.ld false 1 (.t 63)),
      S 65 (.mv (.t 8)),
      S 66 (.ixa 1 (.t 64) (.t 65)),
      S 67 (.ld false 1 (.t 66)),
      S 68 (.call n_qrest [(.t 67), (xI 12)]),
      S 69 (.mv (.t 1)),
      S 70 (.bin .mul .none (xI 10) (.t 69)),
      S 71 (.mv (.t 8)),
      S 72 (.bin .add .none (.t 70) (.t 71)),
      S 73 (.call n_hit [(.t 68), (.t 72)]),
      S 10 (.new true [(eI 0), (.full []), (.full [])]),
      E (.st 3 (.t 10) (.t 73))])
    (.seq (.seq (.ops [S 74 (.mv (.t 8)),
      S 75 (.bin .and .none (.t 74) (xI 1)),
      S 76 (.bin .eql .none (.t 75) (xI 1))])
    (.cond (.t 76)
     (.seq (.ops [S 77 (.fld 1 (.t 10)),
       S 78 (.fld 0 (.t 77)),
       S 79 (.ld false 1 (.t 78)),
       S 80 (.lit 1 false [[(eI 0)]] [(0, (xI 1))]),
       S 81 (.lit 1 false [[(.full [])]] [(0, (.t 80))]),
       S 82 (.app 1 false 24 (.t 79) (.t 81)),
       S 83 (.fld 1 (.t 10)),
       S 84 (.fld 0 (.t 83)),
       E (.st 1 (.t 84) (.t 82))])
     (.ops [S 85 (.fld 1 (.t 10)),
       S 86 (.fld 1 (.t 85)),
       S 87 (.ld false 1 (.t 86)),
       S 88 (.mv (.t 1)),
       S 89 (.build [(eI 0), (eI 0)] [(0, 1, (xI 1)), (1, 1, (.t 88))]),
       S 90 (.lit 2 true [[(eI 0), (eI 0)]] [(0, (.t 89))]),
       S 91 (.app 2 true 16 (.t 87) (.t 90)),
       S 92 (.fld 1 (.t 10)),
       S 93 (.fld 1 (.t 92)),
       E (.st 1 (.t 93) (.t 91))]))
     (.skip)))
    (.seq (.ops [S 94 (.mv (.t 7)),
      S 95 (.mv (.t 9)),
      S 96 (.ixa 4 (.t 94) (.t 95)),
      S 97 (.fld 0 (.t 96)),
      S 98 (.ld false 1 (.t 97)),
      S 99 (.len 0 (.t 98)),
      S 11 (.mv (.t 99))])
    (.seq (.block 3 (.loop [1, 2, 4, 7, 8, 9, 10, 11] (.seq (.seq (.ops [S 100 (.mv (.t 11)),
        S 101 (.bin .gtr .none (.t 100) (xI 0)),
        S 102 (.mv (.t 101)),
        ⟨(some 103), .mv (.t 7), (some (102, true)), []⟩,
        ⟨(some 104), .mv (.t 9), (some (102, true)), []⟩,
        ⟨(some 105), .ixa 4 (.t 103) (.t 104), (some (102, true)), []⟩,
        ⟨(some 106), .fld 0 (.t 105), (some (102, true)), []⟩,
        ⟨(some 107), .ld false 1 (.t 106), (some (102, true)), []⟩,
        ⟨(some 108), .mv (.t 11), (some (102, true)), []⟩,
        ⟨(some 109), .bin .sub .none (.t 108) (xI 1), (some (102, true)), []⟩,
        ⟨(some 110), .ixa 3 (.t 107) (.t 109), (some (102, true)), []⟩,
        ⟨(some 111), .fld 0 (.t 110), (some (102, true)), []⟩,
        ⟨(some 112), .ld false 1 (.t 111), (some (102, true)), []⟩,
        ⟨(some 113), .fld 0 (.t 10), (some (102, true)), []⟩,
        ⟨(some 114), .ld false 1 (.t 113), (some (102, true)), []⟩,
        ⟨(some 115), .bin .gtr .none (.t 112) (.t 114), (some (102, true)), []⟩,
        S 116 (.pick (.t 102) (.t 115) (xB false))])
      (.cond (.t 116)
       (.skip)
       (.exit 3)))
      (.block 4 (.ops [S 117 (.mv (.t 11)),
         S 118 (.bin .sub .none (.t 117) (xI 1)),
         S 11 (.mv (.t 118))])))))
    (.seq (.ops [S 119 (.lit 3 true [] []),
      S 120 (.mv (.t 7)),
      S 121 (.mv (.t 9)),
      S 122 (.ixa 4 (.t 120) (.t 121)),
      S 123 (.fld 0 (.t 122)),
      S 124 (.ld false 1 (.t 123)),
      S 125 (.mv (.t 11)),
      S 126 (.slc 3 (.t 124) (some (.t 125)) none none),
      S 127 (.app 3 true 56 (.t 119) (.t 126)),
      S 12 (.mv (.t 127))])
    (.ops [S 128 (.mv (.t 7)),
      S 129 (.mv (.t 9)),
      S 130 (.mv (.t 7)),
      S 131 (.mv (.t 9)),
      S 132 (.ixa 4 (.t 130) (.t 131)),
      S 133 (.fld 0 (.t 132)),
      S 134 (.ld false 1 (.t 133)),
      S 135 (.mv (.t 11)),
      S 136 (.mv (.t 11)),
      S 137 (.slc 3 (.t 134) none (some (.t 135)) (some (.t 136))),
      S 138 (.ld true 3 (.t 10)),
      S 139 (.lit 3 true [[(eI 0), (.full []), (.full [])]] [(0, (.t 138))]),
      S 141 (.mv (.t 12)),
      S 140 (.app 3 true 56 (.t 137) (.t 139)),
      S 142 (.app 3 true 56 (.t 140) (.t 141)),
      S 143 (.ixa 4 (.t 128) (.t 129)),
      S 144 (.fld 0 (.t 143)),
      E (.st 1 (.t 144) (.t 142))]))))))))
   (.ops [S 56 (.mv (.t 8)),
     S 57 (.bin .add .none (.t 56) (xI 1)),
     S 8 (.mv (.t 57))]))))))
 (.seq (.seq (.ops [S 13 (.mv (xI 0))])
 (.block 5 (.loop [1, 2, 4, 7, 13] (.seq (.seq (.ops [S 145 (.mv (.t 13)),
     S 146 (.fld 4 (.t 2)),
     S 147 (.ld false 1 (.t 146)),
     S 148 (.len 0 (.t 147)),
     S 149 (.bin .lss .none (.t 145) (.t 148)),
     S 150 (.mv (.t 149)),
     ⟨(some 151), .mv (.t 13), (some (150, true)), []⟩,
     ⟨(some 152), .bin .lss .none (.t 151) (xI 2), (some (150, true)), []⟩,
     S 153 (.pick (.t 150) (.t 152) (xB false))])
   (.cond (.t 153)
    (.skip)
    (.exit 5)))
   (.seq (.block 6 (.ops [S 156 (.mv (.t 7)),
      S 157 (.mv (.t 13)),
      S 158 (.mv (.t 7)),
      S 159 (.mv (.t 13)),
      S 160 (.ixa 4 (.t 158) (.t 159)),
      S 161 (.fld 1 (.t 160)),
      S 162 (.ld false 1 (.t 161)),
      S 163 (.fld 4 (.t 2)),
      S 164 (.ld false 1 (.t 163)),
      S 165 (.mv (.t 13)),
      S 166 (.ixa 1 (.t 164) (.t 165)),
      S 167 (.ld false 1 (.t 166)),
      ⟨(some 168), .call n_qrest [(.t 167), (xI 12)], none, [(162, .ld false 1 (.t 161), none)]⟩,
      S 169 (.lit 1 false [[(eI 0)]] [(0, (.t 168))]),
      S 170 (.app 1 false 8 (.t 162) (.t 169)),
      S 171 (.ixa 4 (.t 156) (.t 157)),
      S 172 (.fld 1 (.t 171)),
      E (.st 1 (.t 172) (.t 170))]))
   (.ops [S 154 (.mv (.t 13)),
     S 155 (.bin .add .none (.t 154) (xI 1)),
     S 13 (.mv (.t 155))]))))))
 (.seq (.ops [S 173 (.mv (.t 1)),
   S 174 (.build [(eI 0), (eI 0)] [(0, 1, (.t 173)), (1, 1, (xI 7))]),
   S 175 (.build [(eI 0), (eI 0), (eI 0), (eI 0), (eI 0), (eI 0), (eI 0), (eI 0), (eI 0), (eI 0), (eI 0), (.full []), (eI 0), (eB false)] [(0, 1, (xI 1)), (9, 2, (.t 174))]),
   S 176 (.mv (.t 7)),
   E (.st 14 (.t 4) (.t 175)),
   S 5 (.mv (.t 176))])
 (.ret))))))),
 [.cell 4 true 14, .tmp 5], true, true, false⟩
/- (*sibyl/queue.Desk).Live -/
def d_qLive : DFn := ⟨1,
 .seq (.ops [S 2 (.mv (xI 0))])
 (.seq (.seq (.ops [S 3 (.mv (.t 0)),
   S 4 (.bin .eql .ptr (.t 3) (.v .nilp))])
 (.cond (.t 4)
  (.seq (.ops [S 2 (.mv (xI 0))])
  (.ret))
  (.skip)))
 (.seq (.ops [S 5 (.mv (.t 0)),
   S 6 (.nz (.t 5)),
   S 7 (.fld 7 (.t 6)),
   S 8 (.ld false 1 (.t 7)),
   S 9 (.len 2 (.t 8)),
   S 2 (.mv (.t 9))])
 (.ret))),
 [.tmp 2], false, true, false⟩
/- (*sibyl/queue.Desk).Waiting -/
def d_qWaiting : DFn := ⟨2,
 .seq (.ops [S 4 (.mv (xI 0))])
 (.seq (.seq (.ops [S 5 (.mv (.t 0)),
   S 6 (.bin .eql .ptr (.t 5) (.v .nilp)),
   S 7 (.mv (.t 6)),
   ⟨(some 8), .mv (.t 0), (some (7, false)), []⟩,
   ⟨(some 9), .nz (.t 8), (some (7, false)), []⟩,
   ⟨(some 10), .fld 7 (.t 9), (some (7, false)), []⟩,
   ⟨(some 11), .ld false 1 (.t 10), (some (7, false)), []⟩,
   ⟨(some 12), .mv (.t 1), (some (7, false)), []⟩,
   ⟨(some 13), .look .int .nilp false (.t 11) (.t 12), (some (7, false)), []⟩,
   ⟨(some 14), .bin .eql .ptr (.t 13) (.v .nilp), (some (7, false)), []⟩,
   S 15 (.pick (.t 7) (xB true) (.t 14))])
 (.cond (.t 15)
  (.seq (.ops [S 4 (.mv (xI 0))])
  (.ret))
  (.skip)))
 (.seq (.ops [S 16 (.mv (.t 0)),
   S 17 (.nz (.t 16)),
   S 18 (.fld 7 (.t 17)),
   S 19 (.ld false 1 (.t 18)),
   S 20 (.mv (.t 1)),
   S 21 (.look .int .nilp false (.t 19) (.t 20)),
   S 22 (.nz (.t 21)),
   S 23 (.fld 0 (.t 22)),
   S 24 (.ld false 1 (.t 23)),
   S 25 (.len 0 (.t 24)),
   S 4 (.mv (.t 25))])
 (.ret))),
 [.tmp 4], false, true, false⟩
/- (*sibyl/queue.Desk).Lost -/
def d_qLost : DFn := ⟨2,
 .seq (.ops [S 4 (.mv (xB false))])
 (.seq (.ops [S 5 (.mv (.t 0)),
   S 6 (.bin .neq .ptr (.t 5) (.v .nilp)),
   S 7 (.mv (.t 6)),
   ⟨(some 8), .mv (.t 0), (some (7, true)), []⟩,
   ⟨(some 9), .nz (.t 8), (some (7, true)), []⟩,
   ⟨(some 10), .fld 7 (.t 9), (some (7, true)), []⟩,
   ⟨(some 11), .ld false 1 (.t 10), (some (7, true)), []⟩,
   ⟨(some 12), .mv (.t 1), (some (7, true)), []⟩,
   ⟨(some 13), .look .int .nilp false (.t 11) (.t 12), (some (7, true)), []⟩,
   ⟨(some 14), .bin .neq .ptr (.t 13) (.v .nilp), (some (7, true)), []⟩,
   S 15 (.pick (.t 7) (.t 14) (xB false)),
   S 16 (.mv (.t 15)),
   ⟨(some 17), .mv (.t 0), (some (16, true)), []⟩,
   ⟨(some 18), .nz (.t 17), (some (16, true)), []⟩,
   ⟨(some 19), .fld 7 (.t 18), (some (16, true)), []⟩,
   ⟨(some 20), .ld false 1 (.t 19), (some (16, true)), []⟩,
   ⟨(some 21), .mv (.t 1), (some (16, true)), []⟩,
   ⟨(some 22), .look .int .nilp false (.t 20) (.t 21), (some (16, true)), []⟩,
   ⟨(some 23), .nz (.t 22), (some (16, true)), []⟩,
   ⟨(some 24), .fld 1 (.t 23), (some (16, true)), []⟩,
   ⟨(some 25), .ld false 1 (.t 24), (some (16, true)), []⟩,
   S 26 (.pick (.t 16) (.t 25) (xB false)),
   S 4 (.mv (.t 26))])
 (.ret)),
 [.tmp 4], false, true, false⟩
/- sibyl/sibylref18.SameAnswer -/
def d_SameAnswer : DFn := ⟨2,
 .seq (.ops [S 2 (.box true 3 (.t 0)),
   S 3 (.box true 3 (.t 1)),
   S 4 (.mv (xB false))])
 (.seq (.ops [S 6 (.fld 2 (.t 2)),
   S 7 (.ld false 1 (.t 6)),
   S 8 (.fld 2 (.t 3)),
   S 9 (.ld false 1 (.t 8)),
   S 10 (.call n_Same [(.t 7), (.t 9)]),
   S 5 (.mv (.t 10))])
 (.seq (.ops [S 11 (.mv (.t 5)),
   S 12 (.mv (.t 11)),
   ⟨(some 13), .fld 0 (.t 2), (some (12, true)), []⟩,
   ⟨(some 14), .ld false 1 (.t 13), (some (12, true)), []⟩,
   ⟨(some 15), .fld 0 (.t 3), (some (12, true)), []⟩,
   ⟨(some 16), .ld false 1 (.t 15), (some (12, true)), []⟩,
   ⟨(some 17), .bin .eql .none (.t 14) (.t 16), (some (12, true)), []⟩,
   S 18 (.pick (.t 12) (.t 17) (xB false)),
   S 19 (.mv (.t 18)),
   ⟨(some 20), .fld 1 (.t 2), (some (19, true)), []⟩,
   ⟨(some 21), .ld false 1 (.t 20), (some (19, true)), []⟩,
   ⟨(some 22), .fld 1 (.t 3), (some (19, true)), []⟩,
   ⟨(some 23), .ld false 1 (.t 22), (some (19, true)), []⟩,
   ⟨(some 24), .bin .eql .none (.t 21) (.t 23), (some (19, true)), []⟩,
   S 25 (.pick (.t 19) (.t 24) (xB false)),
   S 4 (.mv (.t 25))])
 (.ret))),
 [.tmp 4], false, true, false⟩
/- sibyl/sibylref18.SameRefs -/
def d_SameRefs : DFn := ⟨2,
 .seq (.ops [S 4 (.mv (xB false))])
 (.seq (.seq (.ops [S 6 (.mv (.t 0)),
   S 7 (.len 0 (.t 6)),
   S 8 (.mv (.t 1)),
   S 9 (.len 0 (.t 8)),
   S 10 (.bin .neq .none (.t 7) (.t 9))])
 (.cond (.t 10)
  (.seq (.ops [S 4 (.mv (xB false))])
  (.ret))
  (.skip)))
 (.seq (.seq (.ops [S 5 (.mv (xI 0))])
 (.block 0 (.loop [0, 1, 5] (.seq (.seq (.ops [S 11 (.mv (.t 5)),
     S 12 (.mv (.t 0)),
     S 13 (.len 0 (.t 12)),
     S 14 (.bin .lss .none (.t 11) (.t 13))])
   (.cond (.t 14)
    (.skip)
    (.exit 0)))
   (.seq (.block 1 (.seq (.ops [S 17 (.mv (.t 0)),
      S 18 (.mv (.t 0)),
      S 19 (.mv (.t 5)),
      S 20 (.ixa 2 (.t 18) (.t 19)),
      S 21 (.ld true 2 (.t 20)),
      S 23 (.mv (.t 1)),
      S 24 (.mv (.t 0)),
      S 25 (.mv (.t 5)),
      S 26 (.ixa 2 (.t 24) (.t 25)),
      S 27 (.ld true 2 (.t 26)),
      ⟨(some 22), .call n_Count6 [(.t 17), (.t 21)], none, [(27, .ld true 2 (.t 26), none)]⟩,
      S 28 (.call n_Count6 [(.t 23), (.t 27)]),
      S 29 (.bin .neq .none (.t 22) (.t 28))])
    (.cond (.t 29)
     (.seq (.ops [S 4 (.mv (xB false))])
     (.ret))
     (.skip))))
   (.ops [S 15 (.mv (.t 5)),
     S 16 (.bin .add .none (.t 15) (xI 1)),
     S 5 (.mv (.t 16))]))))))
 (.seq (.ops [S 4 (.mv (xB true))])
 (.ret)))),
 [.tmp 4], false, true, false⟩
/- (*sibyl/sibylref18.Desk).Held -/
def d_rHeld : DFn := ⟨1,
 .seq (.ops [S 2 (.mv (xI 0))])
 (.seq (.ops [S 3 (.mv (xI 0))])
 (.seq (.seq (.ops [S 4 (.mv (xI 0))])
 (.block 0 (.loop [0, 3, 4] (.seq (.seq (.ops [S 6 (.mv (.t 4)),
     S 7 (.mv (.t 0)),
     S 8 (.nz (.t 7)),
     S 9 (.fld 7 (.t 8)),
     S 10 (.ld false 1 (.t 9)),
     S 11 (.len 0 (.t 10)),
     S 12 (.bin .lss .none (.t 6) (.t 11))])
   (.cond (.t 12)
    (.skip)
    (.exit 0)))
   (.seq (.block 1 (.seq (.ops [S 5 (.mv (xI 0))])
    (.block 2 (.loop [0, 3, 4, 5] (.seq (.seq (.ops [S 15 (.mv (.t 5)),
        S 16 (.mv (.t 0)),
        S 17 (.nz (.t 16)),
        S 18 (.fld 7 (.t 17)),
        S 19 (.ld false 1 (.t 18)),
        S 20 (.mv (.t 4)),
        S 21 (.ixa 3 (.t 19) (.t 20)),
        S 22 (.fld 1 (.t 21)),
        S 23 (.ld false 1 (.t 22)),
        S 24 (.len 0 (.t 23)),
        S 25 (.bin .lss .none (.t 15) (.t 24))])
      (.cond (.t 25)
       (.skip)
       (.exit 2)))
      (.seq (.block 3 (.ops [S 28 (.mv (.t 3)),
         S 29 (.mv (.t 0)),
         S 30 (.nz (.t 29)),
         S 31 (.fld 7 (.t 30)),
         S 32 (.ld false 1 (.t 31)),
         S 33 (.mv (.t 4)),
         S 34 (.ixa 3 (.t 32) (.t 33)),
         S 35 (.fld 1 (.t 34)),
         S 36 (.ld false 1 (.t 35)),
         S 37 (.mv (.t 5)),
         S 38 (.ixa 2 (.t 36) (.t 37)),
         S 39 (.fld 1 (.t 38)),
         S 40 (.ld false 1 (.t 39)),
         S 41 (.len 0 (.t 40)),
         S 42 (.bin .add .none (.t 28) (.t 41)),
         S 3 (.mv (.t 42))]))
      (.ops [S 26 (.mv (.t 5)),
        S 27 (.bin .add .none (.t 26) (xI 1)),
        S 5 (.mv (.t 27))])))))))
   (.ops [S 13 (.mv (.t 4)),
     S 14 (.bin .add .none (.t 13) (xI 1)),
     S 4 (.mv (.t 14))]))))))
 (.seq (.ops [S 43 (.mv (.t 3)),
   S 2 (.mv (.t 43))])
 (.ret)))),
 [.tmp 2], false, true, false⟩
/- (*sibyl/sibylref18.Desk).Waiting -/
def d_rWaiting : DFn := ⟨2,
 .seq (.ops [S 4 (.mv (xI 0))])
 (.seq (.ops [S 6 (.mv (.t 0)),
   S 7 (.mv (.t 1)),
   S 8 (.call n_qfind [(.t 6), (.t 7)]),
   S 5 (.mv (.t 8))])
 (.seq (.seq (.ops [S 9 (.mv (.t 5)),
   S 10 (.bin .lss .none (.t 9) (xI 0))])
 (.cond (.t 10)
  (.seq (.ops [S 4 (.mv (xI 0))])
  (.ret))
  (.skip)))
 (.seq (.ops [S 11 (.mv (.t 0)),
   S 12 (.nz (.t 11)),
   S 13 (.fld 7 (.t 12)),
   S 14 (.ld false 1 (.t 13)),
   S 15 (.mv (.t 5)),
   S 16 (.ixa 3 (.t 14) (.t 15)),
   S 17 (.fld 1 (.t 16)),
   S 18 (.ld false 1 (.t 17)),
   S 19 (.len 0 (.t 18)),
   S 4 (.mv (.t 19))])
 (.ret)))),
 [.tmp 4], false, true, false⟩
/- (*sibyl/sibylref18.Desk).Lost -/
def d_rLost : DFn := ⟨2,
 .seq (.ops [S 4 (.mv (xB false))])
 (.seq (.ops [S 6 (.mv (.t 0)),
   S 7 (.mv (.t 1)),
   S 8 (.call n_qfind [(.t 6), (.t 7)]),
   S 5 (.mv (.t 8))])
 (.seq (.ops [S 9 (.mv (.t 5)),
   S 10 (.bin .geq .none (.t 9) (xI 0)),
   S 11 (.mv (.t 10)),
   ⟨(some 12), .mv (.t 0), (some (11, true)), []⟩,
   ⟨(some 13), .nz (.t 12), (some (11, true)), []⟩,
   ⟨(some 14), .fld 7 (.t 13), (some (11, true)), []⟩,
   ⟨(some 15), .ld false 1 (.t 14), (some (11, true)), []⟩,
   ⟨(some 16), .mv (.t 5), (some (11, true)), []⟩,
   ⟨(some 17), .ixa 3 (.t 15) (.t 16), (some (11, true)), []⟩,
   ⟨(some 18), .fld 2 (.t 17), (some (11, true)), []⟩,
   ⟨(some 19), .ld false 1 (.t 18), (some (11, true)), []⟩,
   S 20 (.pick (.t 11) (.t 19) (xB false)),
   S 4 (.mv (.t 20))])
 (.ret))),
 [.tmp 4], false, true, false⟩
/- sibyl/sibyllaw18.hit -/
def d_hit : DFn := ⟨2,
 .seq (.ops [S 4 (.new true [(eI 0), (.full []), (.full [])])])
 (.seq (.ops [S 5 (.mv (.t 0)),
   S 6 (.mv (.t 1)),
   S 7 (.lit 1 false [[(eI 0)]] [(0, (.t 6))]),
   S 8 (.lit 1 false [[(.full [])]] [(0, (.t 7))]),
   S 9 (.mv (.t 1)),
   S 10 (.build [(eI 0), (eI 0)] [(0, 1, (.t 9))]),
   S 11 (.lit 2 true [[(eI 0), (eI 0)]] [(0, (.t 10))]),
   S 12 (.build [(.full []), (.full [])] [(0, 1, (.t 8)), (1, 1, (.t 11))]),
   S 13 (.build [(eI 0), (.full []), (.full [])] [(0, 1, (.t 5)), (1, 2, (.t 12))]),
   E (.st 3 (.t 4) (.t 13))])
 (.ret)),
 [.cell 4 true 3], true, true, false⟩
/- (*sibyl/queue.Desk).publish -/
def ra_publish0 : DC :=
 .ops [S 12 (.new true [(eI 0), (.full []), (.full [])]),
   E (.st 3 (.t 12) (.t 38))]
def rb_publish0 : DC :=
 .block 3 (.seq (.ops [S 39 (.ld false 1 (.t 3)),
    S 40 (.nz (.t 39)),
    S 41 (.fld 7 (.t 40)),
    S 42 (.ld false 1 (.t 41)),
    S 43 (.fld 0 (.t 12)),
    S 44 (.ld false 1 (.t 43)),
    S 45 (.look .int .nilp false (.t 42) (.t 44)),
    S 13 (.mv (.t 45))])
  (.block 4 (.seq (.ops [S 58 (.mv (.t 13)),
     S 59 (.bin .eql .ptr (.t 58) (.v .nilp)),
     S 60 (.mv (.t 59)),
     ⟨(some 61), .mv (.t 13), (some (60, false)), []⟩,
     ⟨(some 62), .nz (.t 61), (some (60, false)), []⟩,
     ⟨(some 63), .fld 1 (.t 62), (some (60, false)), []⟩,
     ⟨(some 64), .ld false 1 (.t 63), (some (60, false)), []⟩,
     S 65 (.pick (.t 60) (xB true) (.t 64)),
     S 57 (.mv (.t 65))])
   (.cond (.t 57)
    (.ops [S 66 (.ld false 1 (.t 8)),
      S 67 (.fld 1 (.t 12)),
      S 68 (.ld true 2 (.t 67)),
      S 69 (.callv (.t 66) [(.t 68)])])
    (.seq (.ops [S 71 (.mv (.t 13)),
      S 72 (.nz (.t 71)),
      S 73 (.fld 0 (.t 72)),
      S 74 (.ld false 1 (.t 73)),
      S 75 (.len 0 (.t 74)),
      S 76 (.ld false 1 (.t 3)),
      S 77 (.nz (.t 76)),
      S 78 (.fld 0 (.t 77)),
      S 79 (.fld 5 (.t 78)),
      S 80 (.ld false 1 (.t 79)),
      S 81 (.bin .geq .none (.t 75) (.t 80)),
      S 70 (.mv (.t 81))])
    (.cond (.t 70)
     (.seq (.ops [S 82 (.mv (.t 13)),
       S 83 (.nz (.t 82)),
       S 84 (.fld 1 (.t 83)),
       E (.st 1 (.t 84) (xB true))])
     (.ops [S 85 (.ld false 1 (.t 8)),
       S 86 (.fld 1 (.t 12)),
       S 87 (.ld true 2 (.t 86)),
       S 88 (.callv (.t 85) [(.t 87)])]))
     (.ops [S 46 (.mv (.t 13)),
       S 47 (.mv (.t 13)),
       S 48 (.nz (.t 47)),
       S 49 (.fld 0 (.t 48)),
       S 50 (.ld false 1 (.t 49)),
       S 51 (.fld 1 (.t 12)),
       S 52 (.ld true 2 (.t 51)),
       S 53 (.lit 2 true [[(.full []), (.full [])]] [(0, (.t 52))]),
       S 54 (.app 2 true 48 (.t 50) (.t 53)),
       S 55 (.nz (.t 46)),
       S 56 (.fld 0 (.t 55)),
       E (.st 1 (.t 56) (.t 54))])))))))
def d_publish : DFn := ⟨3,
 .seq (.ops [S 3 (.box false 1 (.t 0)),
   S 4 (.box true 14 (.t 1)),
   S 6 (.nils 2 true)])
 (.seq (.ops [S 7 (.new false [(.full [])])])
 (.seq (.ops [S 19 (.mkf (.func n_publish1) [] [(.t 7)]),
   S 8 (.new false [.nilf]),
   E (.st 1 (.t 8) (.t 19))])
 (.seq (.ops [S 20 (.mv (.t 2)),
   S 21 (.len 0 (.t 20)),
   S 22 (.mks 1 false 24 [(.full [])] (.t 21) (.t 21)),
   S 9 (.mv (.t 22))])
 (.seq (.seq (.ops [S 23 (.mv (.t 2)),
   S 24 (.len 0 (.t 23)),
   S 25 (.mv (xI 0))])
 (.block 0 (.loop [2, 3, 4, 6, 7, 8, 9, 23, 24, 25] (.seq (.ops [S 26 (.bin .lss .none (.t 25) (.t 24))])
   (.seq (.cond (.t 26)
    (.skip)
    (.exit 0))
   (.seq (.block 1 (.seq (.ops [S 27 (.mv (.t 25)),
      S 28 (.ixa 4 (.t 23) (.t 25)),
      S 29 (.ld true 4 (.t 28)),
      S 11 (.new true [(.full []), (.full []), (.full []), (.full [])]),
      S 10 (.mv (.t 27)),
      E (.st 4 (.t 11) (.t 29))])
    (.ops [S 30 (.mv (.t 9)),
      S 31 (.mv (.t 10)),
      S 32 (.fld 0 (.t 11)),
      S 33 (.ld false 1 (.t 32)),
      S 34 (.ixa 1 (.t 30) (.t 31)),
      E (.st 1 (.t 34) (.t 33))])))
   (.ops [S 35 (.bin .add .none (.t 25) (xI 1)),
     S 25 (.mv (.t 35))])))))))
 (.seq (.seq (.ops [S 36 (.mv (.t 9)),
   S 37 (.call n_Merge [(.v (.fn (.func 64) [] [])), (.t 36)])])
 (.block 2 (.range [38] [3, 8] (.t 37) ra_publish0 rb_publish0)))
 (.seq (.seq (.ops [S 89 (.mv (.t 2)),
   S 90 (.len 0 (.t 89)),
   S 91 (.mv (xI 0))])
 (.block 5 (.loop [3, 4, 7, 89, 90, 91] (.seq (.ops [S 92 (.bin .lss .none (.t 91) (.t 90))])
   (.seq (.cond (.t 92)
    (.skip)
    (.exit 5))
   (.seq (.block 6 (.seq (.ops [S 93 (.ixa 4 (.t 89) (.t 91)),
      S 94 (.ld true 4 (.t 93)),
      S 15 (.new true [(.full []), (.full []), (.full []), (.full [])]),
      E (.st 4 (.t 15) (.t 94))])
    (.seq (.ops [S 95 (.fld 1 (.t 15)),
      S 96 (.ld false 1 (.t 95)),
      S 97 (.len 0 (.t 96)),
      S 98 (.mv (xI 0))])
    (.block 7 (.loop [3, 4, 7, 89, 90, 91, 96, 97, 98] (.seq (.ops [S 99 (.bin .lss .none (.t 98) (.t 97))])
      (.seq (.cond (.t 99)
       (.skip)
       (.exit 7))
      (.seq (.block 8 (.seq (.ops [S 100 (.ixa 1 (.t 96) (.t 98)),
         S 101 (.ld false 1 (.t 100)),
         S 17 (.mv (.t 101))])
       (.seq (.ops [S 102 (.ld false 1 (.t 3)),
         S 103 (.nz (.t 102)),
         S 104 (.fld 7 (.t 103)),
         S 105 (.ld false 1 (.t 104)),
         S 106 (.mv (.t 17)),
         S 107 (.look .int .nilp false (.t 105) (.t 106)),
         S 18 (.mv (.t 107))])
       (.seq (.ops [S 108 (.mv (.t 18)),
         S 109 (.bin .neq .ptr (.t 108) (.v .nilp))])
       (.cond (.t 109)
        (.ops [S 110 (.mv (.t 18)),
          S 111 (.nz (.t 110)),
          S 112 (.fld 1 (.t 111)),
          E (.st 1 (.t 112) (xB true))])
        (.skip))))))
      (.ops [S 113 (.bin .add .none (.t 98) (xI 1)),
        S 98 (.mv (.t 113))])))))))))
   (.ops [S 114 (.bin .add .none (.t 91) (xI 1)),
     S 91 (.mv (.t 114))])))))))
 (.seq (.ops [S 115 (.ld false 1 (.t 7)),
   S 116 (.fld 9 (.t 4)),
   S 117 (.ld true 2 (.t 116)),
   S 118 (.lit 2 true [[(eI 0), (eI 0)]] [(0, (.t 117))]),
   S 119 (.app 2 true 16 (.t 115) (.t 118)),
   S 6 (.mv (.t 119))])
 (.ret)))))))),
 [.tmp 6], false, false, false⟩
/- (*sibyl/queue.Desk).poll -/
def d_poll : DFn := ⟨2,
 .seq (.ops [S 3 (.box true 14 (.t 1)),
   S 4 (.new true [(eI 0), (eI 0), (.full [])]),
   S 5 (.nils 2 true)])
 (.seq (.ops [S 12 (.mv (.t 0)),
   S 13 (.nz (.t 12)),
   S 14 (.fld 7 (.t 13)),
   S 15 (.ld false 1 (.t 14)),
   S 16 (.fld 1 (.t 3)),
   S 17 (.ld false 1 (.t 16)),
   S 18 (.look .int .nilp false (.t 15) (.t 17)),
   S 6 (.mv (.t 18))])
 (.seq (.block 0 (.seq (.ops [S 20 (.fld 2 (.t 3)),
    S 21 (.ld false 1 (.t 20)),
    S 22 (.bin .lss .none (.t 21) (xI 1)),
    S 19 (.mv (.t 22))])
  (.cond (.t 19)
   (.seq (.ops [S 23 (.build [(eI 0), (eI 0), (.full [])] [(0, 1, (xI 1))]),
     E (.st 3 (.t 4) (.t 23)),
     S 5 (.nils 2 true)])
   (.ret))
   (.seq (.ops [S 25 (.mv (.t 6)),
     S 26 (.bin .eql .ptr (.t 25) (.v .nilp)),
     S 24 (.mv (.t 26))])
   (.cond (.t 24)
    (.seq (.ops [S 27 (.build [(eI 0), (eI 0), (.full [])] [(0, 1, (xI 15))]),
      E (.st 3 (.t 4) (.t 27)),
      S 5 (.nils 2 true)])
    (.ret))
    (.seq (.ops [S 29 (.mv (.t 6)),
      S 30 (.nz (.t 29)),
      S 31 (.fld 0 (.t 30)),
      S 32 (.ld false 1 (.t 31)),
      S 33 (.len 0 (.t 32)),
      S 34 (.bin .eql .none (.t 33) (xI 0)),
      S 35 (.mv (.t 34)),
      ⟨(some 36), .mv (.t 6), (some (35, true)), []⟩,
      ⟨(some 37), .nz (.t 36), (some (35, true)), []⟩,
      ⟨(some 38), .fld 1 (.t 37), (some (35, true)), []⟩,
      ⟨(some 39), .ld false 1 (.t 38), (some (35, true)), []⟩,
      S 40 (.pick (.t 35) (.t 39) (xB false)),
      S 28 (.mv (.t 40))])
    (.cond (.t 28)
     (.seq (.ops [S 41 (.build [(eI 0), (eI 0), (.full [])] [(0, 1, (xI 20))]),
       E (.st 3 (.t 4) (.t 41)),
       S 5 (.nils 2 true)])
     (.ret))
     (.skip))))))))
 (.seq (.ops [S 7 (.new true [(eI 0), (eI 0), (.full [])])])
 (.seq (.ops [S 8 (.nils 2 true)])
 (.seq (.ops [S 42 (.fld 2 (.t 3)),
   S 43 (.ld false 1 (.t 42)),
   S 44 (.mv (.t 6)),
   S 45 (.nz (.t 44)),
   S 46 (.fld 0 (.t 45)),
   S 47 (.ld false 1 (.t 46)),
   S 48 (.len 0 (.t 47)),
   S 49 (.mnx false (.t 43) (.t 48)),
   S 9 (.mv (.t 49))])
 (.seq (.seq (.ops [S 50 (.mv (.t 6)),
   S 51 (.nz (.t 50)),
   S 52 (.fld 0 (.t 51)),
   S 53 (.ld false 1 (.t 52)),
   S 54 (.mv (.t 9)),
   S 55 (.slc 2 (.t 53) none (some (.t 54)) none),
   S 56 (.len 0 (.t 55)),
   S 57 (.mv (xI 0))])
 (.block 1 (.loop [4, 6, 7, 8, 9, 55, 56, 57] (.seq (.ops [S 58 (.bin .lss .none (.t 57) (.t 56))])
   (.seq (.cond (.t 58)
    (.skip)
    (.exit 1))
   (.seq (.block 2 (.seq (.ops [S 59 (.ixa 2 (.t 55) (.t 57)),
      S 60 (.ld true 2 (.t 59)),
      S 11 (.new true [(.full []), (.full [])]),
      E (.st 2 (.t 11) (.t 60))])
    (.seq (.ops [S 61 (.fld 2 (.t 7)),
      S 62 (.ld false 1 (.t 61)),
      S 63 (.fld 0 (.t 11)),
      S 64 (.ld false 1 (.t 63)),
      S 65 (.lit 1 false [[(.full [])]] [(0, (.t 64))]),
      S 66 (.app 1 false 24 (.t 62) (.t 65)),
      S 67 (.fld 2 (.t 7)),
      E (.st 1 (.t 67) (.t 66))])
    (.ops [S 68 (.mv (.t 8)),
      S 69 (.fld 1 (.t 11)),
      S 70 (.ld false 1 (.t 69)),
      S 71 (.app 2 true 16 (.t 68) (.t 70)),
      S 8 (.mv (.t 71))]))))
   (.ops [S 72 (.bin .add .none (.t 57) (xI 1)),
     S 57 (.mv (.t 72))])))))))
 (.seq (.ops [S 73 (.mv (.t 6)),
   S 74 (.lit 2 true [] []),
   S 75 (.mv (.t 6)),
   S 76 (.nz (.t 75)),
   S 77 (.fld 0 (.t 76)),
   S 78 (.ld false 1 (.t 77)),
   S 79 (.mv (.t 9)),
   S 80 (.slc 2 (.t 78) (some (.t 79)) none none),
   S 81 (.app 2 true 48 (.t 74) (.t 80)),
   S 82 (.nz (.t 73)),
   S 83 (.fld 0 (.t 82)),
   E (.st 1 (.t 83) (.t 81))])
 (.seq (.ops [S 84 (.ld true 3 (.t 7)),
   S 85 (.mv (.t 8)),
   E (.st 3 (.t 4) (.t 84)),
   S 5 (.mv (.t 85))])
 (.ret))))))))),
 [.cell 4 true 3, .tmp 5], false, false, false⟩
/- sibyl/sibyllaw18.rest -/
def d_qrest : DFn := ⟨2,
 .seq (.ops [S 4 (.mv (xI 0))])
 (.seq (.ops [S 5 (.mv (.t 0)),
   S 6 (.mv (.t 1)),
   S 7 (.bin .rem .none (.t 5) (.t 6)),
   S 8 (.mv (.t 1)),
   S 9 (.bin .add .none (.t 7) (.t 8)),
   S 10 (.mv (.t 1)),
   S 11 (.bin .rem .none (.t 9) (.t 10)),
   S 4 (.mv (.t 11))])
 (.ret)),
 [.tmp 4], false, true, false⟩
/- (*sibyl/sibylref18.Desk).find -/
def d_qfind : DFn := ⟨2,
 .seq (.ops [S 4 (.mv (xI 0))])
 (.seq (.seq (.ops [S 5 (.mv (xI 0))])
 (.block 0 (.loop [0, 1, 5] (.seq (.seq (.ops [S 6 (.mv (.t 5)),
     S 7 (.mv (.t 0)),
     S 8 (.nz (.t 7)),
     S 9 (.fld 7 (.t 8)),
     S 10 (.ld false 1 (.t 9)),
     S 11 (.len 0 (.t 10)),
     S 12 (.bin .lss .none (.t 6) (.t 11))])
   (.cond (.t 12)
    (.skip)
    (.exit 0)))
   (.seq (.block 1 (.seq (.ops [S 15 (.mv (.t 0)),
      S 16 (.nz (.t 15)),
      S 17 (.fld 7 (.t 16)),
      S 18 (.ld false 1 (.t 17)),
      S 19 (.mv (.t 5)),
      S 20 (.ixa 3 (.t 18) (.t 19)),
      S 21 (.fld 0 (.t 20)),
      S 22 (.ld false 1 (.t 21)),
      S 23 (.mv (.t 1)),
      S 24 (.bin .eql .none (.t 22) (.t 23))])
    (.cond (.t 24)
     (.seq (.ops [S 25 (.mv (.t 5)),
       S 4 (.mv (.t 25))])
     (.ret))
     (.skip))))
   (.ops [S 13 (.mv (.t 5)),
     S 14 (.bin .add .none (.t 13) (xI 1)),
     S 5 (.mv (.t 14))]))))))
 (.seq (.ops [S 4 (.mv (xI (-1)))])
 (.ret))),
 [.tmp 4], false, true, false⟩
/- (*sibyl/sibylref18.Desk).poll -/
def d_rpoll : DFn := ⟨2,
 .seq (.ops [S 3 (.box true 14 (.t 1)),
   S 4 (.new true [(eI 0), (eI 0), (.full []), (.full [])])])
 (.seq (.seq (.ops [S 10 (.fld 2 (.t 3)),
   S 11 (.ld false 1 (.t 10)),
   S 12 (.bin .lss .none (.t 11) (xI 1))])
 (.cond (.t 12)
  (.seq (.ops [S 13 (.build [(eI 0), (eI 0), (.full [])] [(0, 1, (xI 1))]),
    S 14 (.build [(eI 0), (eI 0), (.full []), (.full [])] [(0, 3, (.t 13))]),
    E (.st 4 (.t 4) (.t 14))])
  (.ret))
  (.skip)))
 (.seq (.ops [S 15 (.mv (.t 0)),
   S 16 (.fld 1 (.t 3)),
   S 17 (.ld false 1 (.t 16)),
   S 18 (.call n_qfind [(.t 15), (.t 17)]),
   S 5 (.mv (.t 18))])
 (.seq (.seq (.ops [S 19 (.mv (.t 5)),
   S 20 (.bin .lss .none (.t 19) (xI 0))])
 (.cond (.t 20)
  (.seq (.ops [S 21 (.build [(eI 0), (eI 0), (.full [])] [(0, 1, (xI 15))]),
    S 22 (.build [(eI 0), (eI 0), (.full []), (.full [])] [(0, 3, (.t 21))]),
    E (.st 4 (.t 4) (.t 22))])
  (.ret))
  (.skip)))
 (.seq (.ops [S 23 (.mv (.t 0)),
   S 24 (.nz (.t 23)),
   S 25 (.fld 7 (.t 24)),
   S 26 (.ld false 1 (.t 25)),
   S 27 (.mv (.t 5)),
   S 28 (.ixa 3 (.t 26) (.t 27)),
   S 29 (.ld true 3 (.t 28)),
   S 6 (.new true [(eI 0), (.full []), (eB false)]),
   E (.st 3 (.t 6) (.t 29))])
 (.seq (.seq (.ops [S 30 (.fld 1 (.t 6)),
   S 31 (.ld false 1 (.t 30)),
   S 32 (.len 0 (.t 31)),
   S 33 (.bin .eql .none (.t 32) (xI 0)),
   S 34 (.mv (.t 33)),
   ⟨(some 35), .fld 2 (.t 6), (some (34, true)), []⟩,
   ⟨(some 36), .ld false 1 (.t 35), (some (34, true)), []⟩,
   S 37 (.pick (.t 34) (.t 36) (xB false))])
 (.cond (.t 37)
  (.seq (.ops [S 38 (.build [(eI 0), (eI 0), (.full [])] [(0, 1, (xI 20))]),
    S 39 (.build [(eI 0), (eI 0), (.full []), (.full [])] [(0, 3, (.t 38))]),
    E (.st 4 (.t 4) (.t 39))])
  (.ret))
  (.skip)))
 (.seq (.ops [S 40 (.build [(eI 0), (eI 0), (.full []), (.full [])] []),
   S 7 (.new true [(eI 0), (eI 0), (.full []), (.full [])]),
   E (.st 4 (.t 7) (.t 40))])
 (.seq (.ops [S 41 (.fld 2 (.t 3)),
   S 42 (.ld false 1 (.t 41)),
   S 43 (.fld 1 (.t 6)),
   S 44 (.ld false 1 (.t 43)),
   S 45 (.len 0 (.t 44)),
   S 46 (.mnx false (.t 42) (.t 45)),
   S 8 (.mv (.t 46))])
 (.seq (.seq (.ops [S 9 (.mv (xI 0))])
 (.block 0 (.loop [0, 4, 5, 6, 7, 8, 9] (.seq (.seq (.ops [S 47 (.mv (.t 9)),
     S 48 (.mv (.t 8)),
     S 49 (.bin .lss .none (.t 47) (.t 48))])
   (.cond (.t 49)
    (.skip)
    (.exit 0)))
   (.seq (.block 1 (.seq (.ops [S 52 (.fld 0 (.t 7)),
      S 53 (.fld 2 (.t 52)),
      S 54 (.ld false 1 (.t 53)),
      S 55 (.fld 1 (.t 6)),
      S 56 (.ld false 1 (.t 55)),
      S 57 (.mv (.t 9)),
      S 58 (.ixa 2 (.t 56) (.t 57)),
      S 59 (.fld 0 (.t 58)),
      S 60 (.ld false 1 (.t 59)),
      S 61 (.lit 1 false [[(.full [])]] [(0, (.t 60))]),
      S 62 (.app 1 false 24 (.t 54) (.t 61)),
      S 63 (.fld 0 (.t 7)),
      S 64 (.fld 2 (.t 63)),
      E (.st 1 (.t 64) (.t 62))])
    (.ops [S 65 (.fld 3 (.t 7)),
      S 66 (.ld false 1 (.t 65)),
      S 67 (.fld 1 (.t 6)),
      S 68 (.ld false 1 (.t 67)),
      S 69 (.mv (.t 9)),
      S 70 (.ixa 2 (.t 68) (.t 69)),
      S 71 (.fld 1 (.t 70)),
      S 72 (.ld false 1 (.t 71)),
      S 73 (.app 2 true 16 (.t 66) (.t 72)),
      S 74 (.fld 3 (.t 7)),
      E (.st 1 (.t 74) (.t 73))])))
   (.ops [S 50 (.mv (.t 9)),
     S 51 (.bin .add .none (.t 50) (xI 1)),
     S 9 (.mv (.t 51))]))))))
 (.seq (.ops [S 75 (.mv (.t 0)),
   S 76 (.nz (.t 75)),
   S 77 (.fld 7 (.t 76)),
   S 78 (.ld false 1 (.t 77)),
   S 79 (.mv (.t 5)),
   S 80 (.lit 2 true [] []),
   S 81 (.fld 1 (.t 6)),
   S 82 (.ld false 1 (.t 81)),
   S 83 (.mv (.t 8)),
   S 84 (.slc 2 (.t 82) (some (.t 83)) none none),
   ⟨(some 85), .app 2 true 48 (.t 80) (.t 84), none, [(78, .ld false 1 (.t 77), none)]⟩,
   S 86 (.ixa 3 (.t 78) (.t 79)),
   S 87 (.fld 1 (.t 86)),
   E (.st 1 (.t 87) (.t 85))])
 (.seq (.ops [S 88 (.ld true 4 (.t 7)),
   E (.st 4 (.t 4) (.t 88))])
 (.ret))))))))))),
 [.cell 4 true 4], false, false, false⟩
/- (*sibyl/queue.Desk).publish$1 -/
def d_publish1 : DFn := ⟨2,
 .seq (.ops [S 2 (.box true 2 (.t 0))])
 (.ops [S 3 (.ld false 1 (.t 1)),
   S 4 (.fld 1 (.t 2)),
   S 5 (.ld false 1 (.t 4)),
   S 6 (.app 2 true 16 (.t 3) (.t 5)),
   E (.st 1 (.t 1) (.t 6))]),
 [], false, false, false⟩
/- sibyl/tuple.Merge[sibyl/api.Hit] -/
def d_Merge : DFn := ⟨2,
 .seq (.ops [S 2 (.box false 1 (.t 0)),
   S 3 (.box false 1 (.t 1)),
   S 4 (.mv (.v .nilf))])
 (.seq (.ops [S 5 (.mkf (.func n_Merge1) [] [(.t 3), (.t 2)]),
   S 4 (.mv (.t 5))])
 (.ret)),
 [.tmp 4], false, false, false⟩
/- (*sibyl/queue.Desk).publish$2 -/
def d_publish2 : DFn := ⟨2,
 .seq (.ops [S 2 (.box true 3 (.t 0)),
   S 3 (.box true 3 (.t 1)),
   S 4 (.mv (xB false))])
 (.seq (.ops [S 5 (.fld 0 (.t 2)),
   S 6 (.ld false 1 (.t 5)),
   S 7 (.fld 0 (.t 3)),
   S 8 (.ld false 1 (.t 7)),
   S 9 (.bin .lss .none (.t 6) (.t 8)),
   S 4 (.mv (.t 9))])
 (.ret)),
 [.tmp 4], false, true, false⟩
/- sibyl/tuple.Merge[sibyl/api.Hit]$1 -/
def d_Merge1 : DFn := ⟨3,
 .seq (.ops [S 6 (.ld false 1 (.t 1)),
   S 8 (.ld false 1 (.t 2)),
   S 4 (.new true [(.full []), .nilf]),
   ⟨(some 7), .call n_Clone [(.t 6)], none, [(8, .ld false 1 (.t 2), none)]⟩,
   S 9 (.build [(.full []), .nilf] [(0, 1, (.t 7)), (1, 1, (.t 8))]),
   E (.st 2 (.t 4) (.t 9))])
 (.seq (.ops [S 10 (.ld true 2 (.t 4)),
   S 11 (.call n_best [(.t 10)]),
   S 5 (.mv (.t 11))])
 (.block 0 (.loop [0, 4, 5] (.seq (.seq (.ops [S 12 (.mv (.t 5)),
     S 13 (.bin .geq .none (.t 12) (xI 0))])
   (.cond (.t 13)
    (.skip)
    (.exit 0)))
   (.seq (.block 1 (.seq (.seq (.ops [S 16 (.mv (.t 0)),
      S 17 (.fld 0 (.t 4)),
      S 18 (.ld false 1 (.t 17)),
      S 19 (.mv (.t 5)),
      S 20 (.ixa 1 (.t 18) (.t 19)),
      S 21 (.ld false 1 (.t 20)),
      S 22 (.ixa 3 (.t 21) (xI 0)),
      S 23 (.ld true 3 (.t 22)),
      S 24 (.callv (.t 16) [(.t 23)]),
      S 25 (.un .not (.t 24))])
    (.cond (.t 25)
     (.ret)
     (.skip)))
    (.ops [S 26 (.fld 0 (.t 4)),
      S 27 (.ld false 1 (.t 26)),
      S 28 (.mv (.t 5)),
      S 29 (.fld 0 (.t 4)),
      S 30 (.ld false 1 (.t 29)),
      S 31 (.mv (.t 5)),
      S 32 (.ixa 1 (.t 30) (.t 31)),
      S 33 (.ld false 1 (.t 32)),
      S 34 (.slc 3 (.t 33) (some (xI 1)) none none),
      S 35 (.ixa 1 (.t 27) (.t 28)),
      E (.st 1 (.t 35) (.t 34))])))
   (.ops [S 14 (.ld true 2 (.t 4)),
     S 15 (.call n_best [(.t 14)]),
     S 5 (.mv (.t 15))])))))),
 [], false, false, false⟩
/- slices.Clone[[][]sibyl/api.Hit,[]sibyl/api.Hit] -/
def d_Clone : DFn := ⟨1,
 .seq (.ops [S 2 (.nils 1 false)])
 (.seq (.seq (.ops [S 3 (.mv (.t 0)),
   S 4 (.isnil false (.t 3))])
 (.cond (.t 4)
  (.seq (.ops [S 2 (.nils 1 false)])
  (.ret))
  (.skip)))
 (.seq (.ops [S 5 (.lit 1 false [] []),
   S 6 (.mv (.t 0)),
   S 7 (.app 1 false 24 (.t 5) (.t 6)),
   S 2 (.mv (.t 7))])
 (.ret))),
 [.tmp 2], false, false, false⟩
/- (sibyl/tuple.heads[sibyl/api.Hit]).best -/
def d_best : DFn := ⟨1,
 .seq (.ops [S 1 (.box true 2 (.t 0)),
   S 2 (.mv (xI 0))])
 (.seq (.ops [S 3 (.mv (xI (-1)))])
 (.seq (.seq (.ops [S 6 (.fld 0 (.t 1)),
   S 7 (.ld false 1 (.t 6)),
   S 8 (.len 0 (.t 7)),
   S 9 (.mv (xI 0))])
 (.block 0 (.loop [1, 3, 7, 8, 9] (.seq (.ops [S 10 (.bin .lss .none (.t 9) (.t 8))])
   (.seq (.cond (.t 10)
    (.skip)
    (.exit 0))
   (.seq (.block 1 (.seq (.ops [S 11 (.mv (.t 9)),
      S 12 (.ixa 1 (.t 7) (.t 9)),
      S 13 (.ld false 1 (.t 12)),
      S 4 (.mv (.t 11)),
      S 5 (.mv (.t 13))])
    (.seq (.ops [S 14 (.mv (.t 5)),
      S 15 (.len 0 (.t 14)),
      S 16 (.bin .gtr .none (.t 15) (xI 0)),
      S 17 (.mv (.t 16)),
      ⟨(some 18), .mv (.t 3), (some (17, true)), []⟩,
      ⟨(some 19), .bin .lss .none (.t 18) (xI 0), (some (17, true)), []⟩,
      ⟨(some 20), .mv (.t 19), (some (17, true)), []⟩,
      ⟨(some 21), .fld 1 (.t 1), (some (20, false)), []⟩,
      ⟨(some 22), .ld false 1 (.t 21), (some (20, false)), []⟩,
      ⟨(some 23), .mv (.t 5), (some (20, false)), []⟩,
      ⟨(some 24), .ixa 3 (.t 23) (xI 0), (some (20, false)), []⟩,
      ⟨(some 25), .ld true 3 (.t 24), (some (20, false)), []⟩,
      ⟨(some 26), .fld 0 (.t 1), (some (20, false)), []⟩,
      ⟨(some 27), .ld false 1 (.t 26), (some (20, false)), []⟩,
      ⟨(some 28), .mv (.t 3), (some (20, false)), []⟩,
      ⟨(some 29), .ixa 1 (.t 27) (.t 28), (some (20, false)), []⟩,
      ⟨(some 30), .ld false 1 (.t 29), (some (20, false)), []⟩,
      ⟨(some 31), .ixa 3 (.t 30) (xI 0), (some (20, false)), []⟩,
      ⟨(some 32), .ld true 3 (.t 31), (some (20, false)), []⟩,
      ⟨(some 33), .callv (.t 22) [(.t 25), (.t 32)], (some (20, false)), []⟩,
      ⟨(some 34), .pick (.t 20) (xB true) (.t 33), (some (17, true)), []⟩,
      S 35 (.pick (.t 17) (.t 34) (xB false))])
    (.cond (.t 35)
     (.ops [S 36 (.mv (.t 4)),
       S 3 (.mv (.t 36))])
     (.skip)))))
   (.ops [S 37 (.bin .add .none (.t 9) (xI 1)),
     S 9 (.mv (.t 37))])))))))
 (.seq (.ops [S 38 (.mv (.t 3)),
   S 2 (.mv (.t 38))])
 (.ret)))),
 [.tmp 2], false, true, false⟩
/- sibyl/sibylref06.Same -/
def d_Same : DFn := ⟨2,
 .seq (.ops [S 4 (.mv (xB false))])
 (.seq (.seq (.ops [S 6 (.mv (.t 0)),
   S 7 (.len 0 (.t 6)),
   S 8 (.mv (.t 1)),
   S 9 (.len 0 (.t 8)),
   S 10 (.bin .neq .none (.t 7) (.t 9))])
 (.cond (.t 10)
  (.seq (.ops [S 4 (.mv (xB false))])
  (.ret))
  (.skip)))
 (.seq (.seq (.ops [S 5 (.mv (xI 0))])
 (.block 0 (.loop [0, 1, 5] (.seq (.seq (.ops [S 11 (.mv (.t 5)),
     S 12 (.mv (.t 0)),
     S 13 (.len 0 (.t 12)),
     S 14 (.bin .lss .none (.t 11) (.t 13))])
   (.cond (.t 14)
    (.skip)
    (.exit 0)))
   (.seq (.block 1 (.seq (.ops [S 17 (.mv (.t 0)),
      S 18 (.mv (.t 5)),
      S 19 (.ixa 1 (.t 17) (.t 18)),
      S 20 (.ld false 1 (.t 19)),
      S 21 (.mv (.t 1)),
      S 22 (.mv (.t 5)),
      S 23 (.ixa 1 (.t 21) (.t 22)),
      S 24 (.ld false 1 (.t 23)),
      S 25 (.call n_Compare6 [(.t 20), (.t 24)]),
      S 26 (.bin .neq .none (.t 25) (xI 0))])
    (.cond (.t 26)
     (.seq (.ops [S 4 (.mv (xB false))])
     (.ret))
     (.skip))))
   (.ops [S 15 (.mv (.t 5)),
     S 16 (.bin .add .none (.t 15) (xI 1)),
     S 5 (.mv (.t 16))]))))))
 (.seq (.ops [S 4 (.mv (xB true))])
 (.ret)))),
 [.tmp 4], false, true, false⟩
/- sibyl/sibylref18.Count -/
def d_Count6 : DFn := ⟨2,
 .seq (.ops [S 3 (.box true 2 (.t 1)),
   S 4 (.mv (xI 0))])
 (.seq (.ops [S 5 (.mv (xI 0))])
 (.seq (.seq (.ops [S 6 (.mv (xI 0))])
 (.block 0 (.loop [0, 3, 5, 6] (.seq (.seq (.ops [S 7 (.mv (.t 6)),
     S 8 (.mv (.t 0)),
     S 9 (.len 0 (.t 8)),
     S 10 (.bin .lss .none (.t 7) (.t 9))])
   (.cond (.t 10)
    (.skip)
    (.exit 0)))
   (.seq (.block 1 (.seq (.ops [S 13 (.mv (.t 0)),
      S 14 (.mv (.t 6)),
      S 15 (.ixa 2 (.t 13) (.t 14)),
      S 16 (.ld true 2 (.t 15)),
      S 17 (.ld true 2 (.t 3)),
      S 18 (.bin .eql (.cells [.int, .int]) (.t 16) (.t 17))])
    (.cond (.t 18)
     (.ops [S 19 (.mv (.t 5)),
       S 20 (.bin .add .none (.t 19) (xI 1)),
       S 5 (.mv (.t 20))])
     (.skip))))
   (.ops [S 11 (.mv (.t 6)),
     S 12 (.bin .add .none (.t 11) (xI 1)),
     S 6 (.mv (.t 12))]))))))
 (.seq (.ops [S 21 (.mv (.t 5)),
   S 4 (.mv (.t 21))])
 (.ret)))),
 [.tmp 4], false, true, false⟩
/- (*sibyl/queue.Desk).Held -/
def d_qHeld : DFn := ⟨1,
 .seq (.ops [S 2 (.mv (xI 0))])
 (.seq (.seq (.ops [S 8 (.mv (.t 0)),
   S 9 (.bin .eql .ptr (.t 8) (.v .nilp))])
 (.cond (.t 9)
  (.seq (.ops [S 2 (.mv (xI 0))])
  (.ret))
  (.skip)))
 (.seq (.ops [S 3 (.mv (xI 0))])
 (.seq (.seq (.ops [S 10 (.mv (.t 0)),
   S 11 (.nz (.t 10)),
   S 12 (.fld 7 (.t 11)),
   S 13 (.ld false 1 (.t 12))])
 (.ops [S 3 (.mnth (.t 13) (xI (-1)))]))
 (.seq (.ops [S 34 (.mv (.t 3)),
   S 2 (.mv (.t 34))])
 (.ret))))),
 [.tmp 2], false, false, false⟩
/- sibyl/sibyllaw18.QueueBound -/
def d_QueueBound : DFn := ⟨2,
 .seq (.ops [S 2 (.box true 2 (.t 0)),
   S 4 (.mv (xB false))])
 (.seq (.ops [S 14 (.call n_qawake []),
   S 5 (.mv (.t 14))])
 (.seq (.ops [S 15 (.ld true 2 (.t 2)),
   S 16 (.call n_config [(.t 15)]),
   S 6 (.new true [(eI 0), (eI 0), (eI 0), (eI 0), (eI 0), (eI 0), (eI 0)]),
   E (.st 7 (.t 6) (.t 16))])
 (.seq (.ops [S 17 (.ld true 7 (.t 6)),
   S 18 (.call n_qNew [(.t 17)]),
   S 7 (.mv (.t 18))])
 (.seq (.ops [S 8 (.new true [(eB false), (eB false), (eB false), (eB false), (eB false), (eB false), (eB false), (eB false), (eB false), (eB false), (eB false), (eB false), (eB false), (eB false), (eB false), (eB false), (eB false), (eB false), (eB false), (eB false), (eB false), (eB false), (eB false), (eB false), (eB false), (eB false), (eB false), (eB false), (eB false), (eB false), (eB false), (eB false), (eB false), (eB false), (eB false), (eB false), (eB false), (eB false), (eB false), (eB false), (eB false)])])
 (.seq (.seq (.ops [S 9 (.mv (xI 0))])
 (.block 0 (.loop [1, 5, 6, 7, 8, 9] (.seq (.seq (.ops [S 19 (.mv (.t 9)),
     S 20 (.mv (.t 1)),
     S 21 (.len 0 (.t 20)),
     S 22 (.bin .lss .none (.t 19) (.t 21)),
     S 23 (.mv (.t 22)),
     ⟨(some 24), .mv (.t 9), (some (23, true)), []⟩,
     ⟨(some 25), .bin .lss .none (.t 24) (xI 40), (some (23, true)), []⟩,
     S 26 (.pick (.t 23) (.t 25) (xB false))])
   (.cond (.t 26)
    (.skip)
    (.exit 0)))
   (.seq (.block 1 (.seq (.ops [S 30 (.mv (.t 1)),
      S 31 (.mv (.t 9)),
      S 32 (.ixa 6 (.t 30) (.t 31)),
      S 33 (.ld true 6 (.t 32)),
      S 34 (.mv (.t 9)),
      S 35 (.bin .add .none (.t 34) (xI 1)),
      S 36 (.call n_command [(.t 33), (.t 35)]),
      S 29 (.mv (.t 36)),
      S 37 (.ext (.t 29) 0),
      S 38 (.ext (.t 29) 1),
      S 10 (.new true [(eI 0), (eI 0), (eI 0), (eI 0), (eI 0), (eI 0), (eI 0), (eI 0), (eI 0), (eI 0), (eI 0), (.full []), (eI 0), (eB false)]),
      E (.st 14 (.t 10) (.t 37)),
      S 11 (.mv (.t 38))])
    (.seq (.ops [S 39 (.mv (.t 7)),
      S 40 (.mv (.t 9)),
      S 41 (.bin .add .none (.t 40) (xI 1)),
      S 42 (.ld true 14 (.t 10)),
      S 43 (.mv (.t 11)),
      S 44 (.call n_qDo [(.t 39), (.t 41), (.t 42), (.t 43)])])
    (.seq (.seq (.ops [S 45 (.mv (.t 7)),
      S 47 (.fld 3 (.t 6)),
      S 48 (.ld false 1 (.t 47)),
      ⟨(some 46), .call n_qLive [(.t 45)], none, [(48, .ld false 1 (.t 47), none)]⟩,
      S 49 (.bin .gtr .none (.t 46) (.t 48))])
    (.cond (.t 49)
     (.seq (.ops [S 4 (.mv (xB false))])
     (.ret))
     (.skip)))
    (.seq (.ops [S 12 (.mv (xI 0))])
    (.block 2 (.loop [1, 5, 6, 7, 8, 9, 10, 12] (.seq (.seq (.ops [S 50 (.mv (.t 12)),
        S 51 (.bin .lss .none (.t 50) (xI 41))])
      (.cond (.t 51)
       (.skip)
       (.exit 2)))
      (.seq (.block 3 (.seq (.ops [S 54 (.fld 0 (.t 10)),
         S 55 (.ld false 1 (.t 54)),
         S 56 (.bin .eql .none (.t 55) (xI 3)),
         S 57 (.mv (.t 56)),
         ⟨(some 58), .fld 1 (.t 10), (some (57, true)), []⟩,
         ⟨(some 59), .ld false 1 (.t 58), (some (57, true)), []⟩,
         ⟨(some 60), .mv (.t 12), (some (57, true)), []⟩,
         ⟨(some 61), .bin .eql .none (.t 59) (.t 60), (some (57, true)), []⟩,
         S 62 (.pick (.t 57) (.t 61) (xB false)),
         S 13 (.mv (.t 62))])
       (.seq (.seq (.ops [S 63 (.mv (.t 7)),
         S 64 (.mv (.t 12)),
         S 66 (.fld 5 (.t 6)),
         S 67 (.ld false 1 (.t 66)),
         ⟨(some 65), .call n_qWaiting [(.t 63), (.t 64)], none, [(67, .ld false 1 (.t 66), none)]⟩,
         S 68 (.bin .gtr .none (.t 65) (.t 67)),
         S 69 (.mv (.t 68)),
         ⟨(some 70), .mv (.t 12), (some (69, false)), []⟩,
         ⟨(some 71), .ixp 41 1 (.t 8) (.t 70), (some (69, false)), []⟩,
         ⟨(some 72), .ld false 1 (.t 71), (some (69, false)), []⟩,
         ⟨(some 73), .mv (.t 72), (some (69, false)), []⟩,
         ⟨(some 74), .mv (.t 13), (some (73, true)), []⟩,
         ⟨(some 75), .un .not (.t 74), (some (73, true)), []⟩,
         ⟨(some 76), .pick (.t 73) (.t 75) (xB false), (some (69, false)), []⟩,
         ⟨(some 77), .mv (.t 76), (some (69, false)), []⟩,
         ⟨(some 78), .mv (.t 7), (some (77, true)), []⟩,
         ⟨(some 79), .mv (.t 12), (some (77, true)), []⟩,
         ⟨(some 80), .call n_qLost [(.t 78), (.t 79)], (some (77, true)), []⟩,
         ⟨(some 81), .un .not (.t 80), (some (77, true)), []⟩,
         ⟨(some 82), .pick (.t 77) (.t 81) (xB false), (some (69, false)), []⟩,
         S 83 (.pick (.t 69) (xB true) (.t 82))])
       (.cond (.t 83)
        (.seq (.ops [S 4 (.mv (xB false))])
        (.ret))
        (.skip)))
       (.ops [S 84 (.mv (.t 12)),
         S 85 (.mv (.t 7)),
         S 86 (.mv (.t 12)),
         S 87 (.call n_qLost [(.t 85), (.t 86)]),
         S 88 (.ixp 41 1 (.t 8) (.t 84)),
         E (.st 1 (.t 88) (.t 87))]))))
      (.ops [S 52 (.mv (.t 12)),
        S 53 (.bin .add .none (.t 52) (xI 1)),
        S 12 (.mv (.t 53))]))))))))))
   (.ops [S 27 (.mv (.t 9)),
     S 28 (.bin .add .none (.t 27) (xI 1)),
     S 9 (.mv (.t 28))]))))))
 (.seq (.ops [S 89 (.mv (.t 5)),
   S 4 (.mv (.t 89))])
 (.ret))))))),
 [.tmp 4], false, true, false⟩
/- sibyl/sibyllaw18.QueueApart -/
def d_QueueApart : DFn := ⟨2,
 .seq (.ops [S 2 (.box true 2 (.t 0)),
   S 4 (.mv (xB false))])
 (.seq (.ops [S 21 (.call n_qawake []),
   S 5 (.mv (.t 21))])
 (.seq (.ops [S 22 (.ld true 2 (.t 2)),
   S 23 (.call n_config [(.t 22)]),
   S 24 (.call n_qNew [(.t 23)]),
   S 6 (.mv (.t 24))])
 (.seq (.ops [S 25 (.ld true 2 (.t 2)),
   S 26 (.call n_config [(.t 25)]),
   S 27 (.call n_qNew [(.t 26)]),
   S 7 (.mv (.t 27))])
 (.seq (.seq (.ops [S 8 (.mv (xI 0))])
 (.block 0 (.loop [1, 5, 6, 7, 8] (.seq (.seq (.ops [S 28 (.mv (.t 8)),
     S 29 (.mv (.t 1)),
     S 30 (.len 0 (.t 29)),
     S 31 (.bin .lss .none (.t 28) (.t 30)),
     S 32 (.mv (.t 31)),
     ⟨(some 33), .mv (.t 8), (some (32, true)), []⟩,
     ⟨(some 34), .bin .lss .none (.t 33) (xI 40), (some (32, true)), []⟩,
     S 35 (.pick (.t 32) (.t 34) (xB false))])
   (.cond (.t 35)
    (.skip)
    (.exit 0)))
   (.seq (.block 1 (.seq (.ops [S 39 (.mv (.t 1)),
      S 40 (.mv (.t 8)),
      S 41 (.ixa 6 (.t 39) (.t 40)),
      S 42 (.ld true 6 (.t 41)),
      S 43 (.mv (.t 8)),
      S 44 (.bin .add .none (.t 43) (xI 1)),
      S 45 (.call n_command [(.t 42), (.t 44)]),
      S 38 (.mv (.t 45)),
      S 46 (.ext (.t 38) 0),
      S 47 (.ext (.t 38) 1),
      S 9 (.new true [(eI 0), (eI 0), (eI 0), (eI 0), (eI 0), (eI 0), (eI 0), (eI 0), (eI 0), (eI 0), (eI 0), (.full []), (eI 0), (eB false)]),
      E (.st 14 (.t 9) (.t 46)),
      S 10 (.mv (.t 47))])
    (.seq (.ops [S 48 (.mv (.t 10)),
      S 49 (.len 0 (.t 48)),
      S 50 (.mks 4 true 96 [(.full []), (.full []), (.full []), (.full [])] (.t 49) (.t 49)),
      S 11 (.mv (.t 50))])
    (.seq (.seq (.ops [S 12 (.mv (xI 0))])
    (.block 2 (.loop [1, 5, 6, 7, 8, 9, 10, 11, 12] (.seq (.seq (.ops [S 51 (.mv (.t 12)),
        S 52 (.mv (.t 10)),
        S 53 (.len 0 (.t 52)),
        S 54 (.bin .lss .none (.t 51) (.t 53))])
      (.cond (.t 54)
       (.skip)
       (.exit 2)))
      (.seq (.block 3 (.seq (.seq (.ops [S 13 (.mv (xI 0))])
       (.block 4 (.loop [1, 5, 6, 7, 8, 9, 10, 11, 12, 13] (.seq (.seq (.ops [S 57 (.mv (.t 13)),
           S 58 (.mv (.t 10)),
           S 59 (.mv (.t 12)),
           S 60 (.ixa 4 (.t 58) (.t 59)),
           S 61 (.fld 0 (.t 60)),
           S 62 (.ld false 1 (.t 61)),
           S 63 (.len 0 (.t 62)),
           S 64 (.bin .lss .none (.t 57) (.t 63))])
         (.cond (.t 64)
          (.skip)
          (.exit 4)))
         (.seq (.block 5 (.seq (.ops [S 67 (.mv (.t 10)),
            S 68 (.mv (.t 12)),
            S 69 (.ixa 4 (.t 67) (.t 68)),
            S 70 (.fld 0 (.t 69)),
            S 71 (.ld false 1 (.t 70)),
            S 72 (.mv (.t 13)),
            S 73 (.ixa 3 (.t 71) (.t 72)),
            S 74 (.fld 0 (.t 73)),
            S 75 (.ld false 1 (.t 74)),
            S 76 (.bin .rem .none (.t 75) (xI 2)),
            S 77 (.bin .eql .none (.t 76) (xI 0))])
          (.cond (.t 77)
           (.ops [S 78 (.mv (.t 11)),
             S 79 (.mv (.t 12)),
             S 80 (.mv (.t 11)),
             S 81 (.mv (.t 12)),
             S 82 (.ixa 4 (.t 80) (.t 81)),
             S 83 (.fld 0 (.t 82)),
             S 84 (.ld false 1 (.t 83)),
             S 85 (.mv (.t 10)),
             S 86 (.mv (.t 12)),
             S 87 (.ixa 4 (.t 85) (.t 86)),
             S 88 (.fld 0 (.t 87)),
             S 89 (.ld false 1 (.t 88)),
             S 90 (.mv (.t 13)),
             S 91 (.ixa 3 (.t 89) (.t 90)),
             S 92 (.ld true 3 (.t 91)),
             S 93 (.lit 3 true [[(eI 0), (.full []), (.full [])]] [(0, (.t 92))]),
             S 94 (.app 3 true 56 (.t 84) (.t 93)),
             S 95 (.ixa 4 (.t 78) (.t 79)),
             S 96 (.fld 0 (.t 95)),
             E (.st 1 (.t 96) (.t 94))])
           (.skip))))
         (.ops [S 65 (.mv (.t 13)),
           S 66 (.bin .add .none (.t 65) (xI 1)),
           S 13 (.mv (.t 66))]))))))
       (.seq (.ops [S 14 (.mv (xI 0))])
       (.block 6 (.loop [1, 5, 6, 7, 8, 9, 10, 11, 12, 14] (.seq (.seq (.ops [S 97 (.mv (.t 14)),
           S 98 (.mv (.t 10)),
           S 99 (.mv (.t 12)),
           S 100 (.ixa 4 (.t 98) (.t 99)),
           S 101 (.fld 1 (.t 100)),
           S 102 (.ld false 1 (.t 101)),
           S 103 (.len 0 (.t 102)),
           S 104 (.bin .lss .none (.t 97) (.t 103))])
         (.cond (.t 104)
          (.skip)
          (.exit 6)))
         (.seq (.block 7 (.seq (.ops [S 107 (.mv (.t 10)),
            S 108 (.mv (.t 12)),
            S 109 (.ixa 4 (.t 107) (.t 108)),
            S 110 (.fld 1 (.t 109)),
            S 111 (.ld false 1 (.t 110)),
            S 112 (.mv (.t 14)),
            S 113 (.ixa 1 (.t 111) (.t 112)),
            S 114 (.ld false 1 (.t 113)),
            S 115 (.bin .rem .none (.t 114) (xI 2)),
            S 116 (.bin .eql .none (.t 115) (xI 0))])
          (.cond (.t 116)
           (.ops [S 117 (.mv (.t 11)),
             S 118 (.mv (.t 12)),
             S 119 (.mv (.t 11)),
             S 120 (.mv (.t 12)),
             S 121 (.ixa 4 (.t 119) (.t 120)),
             S 122 (.fld 1 (.t 121)),
             S 123 (.ld false 1 (.t 122)),
             S 124 (.mv (.t 10)),
             S 125 (.mv (.t 12)),
             S 126 (.ixa 4 (.t 124) (.t 125)),
             S 127 (.fld 1 (.t 126)),
             S 128 (.ld false 1 (.t 127)),
             S 129 (.mv (.t 14)),
             S 130 (.ixa 1 (.t 128) (.t 129)),
             S 131 (.ld false 1 (.t 130)),
             S 132 (.lit 1 false [[(eI 0)]] [(0, (.t 131))]),
             S 133 (.app 1 false 8 (.t 123) (.t 132)),
             S 134 (.ixa 4 (.t 117) (.t 118)),
             S 135 (.fld 1 (.t 134)),
             E (.st 1 (.t 135) (.t 133))])
           (.skip))))
         (.ops [S 105 (.mv (.t 14)),
           S 106 (.bin .add .none (.t 105) (xI 1)),
           S 14 (.mv (.t 106))]))))))))
      (.ops [S 55 (.mv (.t 12)),
        S 56 (.bin .add .none (.t 55) (xI 1)),
        S 12 (.mv (.t 56))]))))))
    (.seq (.ops [S 137 (.mv (.t 6)),
      S 138 (.mv (.t 8)),
      S 139 (.bin .add .none (.t 138) (xI 1)),
      S 140 (.ld true 14 (.t 9)),
      S 141 (.mv (.t 10)),
      S 142 (.call n_qDo [(.t 137), (.t 139), (.t 140), (.t 141)]),
      S 136 (.mv (.t 142)),
      S 143 (.ext (.t 136) 0),
      S 144 (.ext (.t 136) 1),
      S 15 (.new true [(eI 0), (eI 0), (.full [])]),
      E (.st 3 (.t 15) (.t 143)),
      S 16 (.mv (.t 144))])
    (.seq (.ops [S 146 (.mv (.t 7)),
      S 147 (.mv (.t 8)),
      S 148 (.bin .add .none (.t 147) (xI 1)),
      S 149 (.ld true 14 (.t 9)),
      S 150 (.mv (.t 11)),
      S 151 (.call n_qDo [(.t 146), (.t 148), (.t 149), (.t 150)]),
      S 145 (.mv (.t 151)),
      S 152 (.ext (.t 145) 0),
      S 153 (.ext (.t 145) 1),
      S 17 (.new true [(eI 0), (eI 0), (.full [])]),
      E (.st 3 (.t 17) (.t 152)),
      S 18 (.mv (.t 153))])
    (.seq (.ops [S 154 (.ld true 3 (.t 15)),
      S 155 (.ld true 3 (.t 17)),
      S 156 (.call n_SameAnswer [(.t 154), (.t 155)]),
      S 19 (.mv (.t 156))])
    (.seq (.seq (.ops [S 157 (.mv (.t 19)),
      S 158 (.un .not (.t 157)),
      S 159 (.mv (.t 158)),
      ⟨(some 160), .fld 0 (.t 9), (some (159, true)), []⟩,
      ⟨(some 161), .ld false 1 (.t 160), (some (159, true)), []⟩,
      ⟨(some 162), .bin .neq .none (.t 161) (xI 4), (some (159, true)), []⟩,
      ⟨(some 163), .mv (.t 162), (some (159, true)), []⟩,
      ⟨(some 164), .fld 1 (.t 9), (some (163, false)), []⟩,
      ⟨(some 165), .ld false 1 (.t 164), (some (163, false)), []⟩,
      ⟨(some 166), .bin .rem .none (.t 165) (xI 2), (some (163, false)), []⟩,
      ⟨(some 167), .bin .eql .none (.t 166) (xI 0), (some (163, false)), []⟩,
      ⟨(some 168), .pick (.t 163) (xB true) (.t 167), (some (159, true)), []⟩,
      S 169 (.pick (.t 159) (.t 168) (xB false))])
    (.cond (.t 169)
     (.seq (.ops [S 4 (.mv (xB false))])
     (.ret))
     (.skip)))
    (.seq (.ops [S 20 (.mv (xI 0))])
    (.block 8 (.loop [1, 5, 6, 7, 8, 20] (.seq (.seq (.ops [S 170 (.mv (.t 20)),
        S 171 (.bin .lss .none (.t 170) (xI 12))])
      (.cond (.t 171)
       (.skip)
       (.exit 8)))
      (.seq (.block 9 (.seq (.ops [S 174 (.mv (.t 6)),
         S 175 (.mv (.t 20)),
         S 176 (.call n_qWaiting [(.t 174), (.t 175)]),
         S 177 (.mv (.t 7)),
         S 178 (.mv (.t 20)),
         S 179 (.call n_qWaiting [(.t 177), (.t 178)]),
         S 180 (.bin .neq .none (.t 176) (.t 179)),
         S 181 (.mv (.t 180)),
         ⟨(some 182), .mv (.t 6), (some (181, false)), []⟩,
         ⟨(some 183), .mv (.t 20), (some (181, false)), []⟩,
         ⟨(some 184), .call n_qLost [(.t 182), (.t 183)], (some (181, false)), []⟩,
         ⟨(some 185), .mv (.t 7), (some (181, false)), []⟩,
         ⟨(some 186), .mv (.t 20), (some (181, false)), []⟩,
         ⟨(some 187), .call n_qLost [(.t 185), (.t 186)], (some (181, false)), []⟩,
         ⟨(some 188), .bin .neq .bool (.t 184) (.t 187), (some (181, false)), []⟩,
         S 189 (.pick (.t 181) (xB true) (.t 188))])
       (.cond (.t 189)
        (.seq (.ops [S 4 (.mv (xB false))])
        (.ret))
        (.skip))))
      (.ops [S 172 (.mv (.t 20)),
        S 173 (.bin .add .none (.t 172) (xI 2)),
        S 20 (.mv (.t 173))]))))))))))))))
   (.ops [S 36 (.mv (.t 8)),
     S 37 (.bin .add .none (.t 36) (xI 1)),
     S 8 (.mv (.t 37))]))))))
 (.seq (.ops [S 190 (.mv (.t 5)),
   S 191 (.mv (.t 190)),
   ⟨(some 192), .mv (.t 6), (some (191, true)), []⟩,
   ⟨(some 193), .call n_qLive [(.t 192)], (some (191, true)), []⟩,
   ⟨(some 194), .mv (.t 7), (some (191, true)), []⟩,
   ⟨(some 195), .call n_qLive [(.t 194)], (some (191, true)), []⟩,
   ⟨(some 196), .bin .eql .none (.t 193) (.t 195), (some (191, true)), []⟩,
   S 197 (.pick (.t 191) (.t 196) (xB false)),
   S 4 (.mv (.t 197))])
 (.ret)))))),
 [.tmp 4], false, true, false⟩
/- sibyl/sibylref06.Compare -/
def d_Compare6 : DFn := ⟨2,
 .seq (.ops [S 4 (.mv (xI 0))])
 (.seq (.seq (.ops [S 5 (.mv (xI 0))])
 (.block 0 (.loop [0, 1, 5] (.seq (.seq (.ops [S 7 (.mv (.t 5)),
     S 8 (.mv (.t 0)),
     S 9 (.len 0 (.t 8)),
     S 10 (.bin .lss .none (.t 7) (.t 9)),
     S 11 (.mv (.t 10)),
     ⟨(some 12), .mv (.t 5), (some (11, true)), []⟩,
     ⟨(some 13), .mv (.t 1), (some (11, true)), []⟩,
     ⟨(some 14), .len 0 (.t 13), (some (11, true)), []⟩,
     ⟨(some 15), .bin .lss .none (.t 12) (.t 14), (some (11, true)), []⟩,
     S 16 (.pick (.t 11) (.t 15) (xB false))])
   (.cond (.t 16)
    (.skip)
    (.exit 0)))
   (.seq (.block 1 (.seq (.ops [S 19 (.mv (.t 0)),
      S 20 (.mv (.t 5)),
      S 21 (.ixa 1 (.t 19) (.t 20)),
      S 22 (.ld false 1 (.t 21)),
      S 23 (.mv (.t 1)),
      S 24 (.mv (.t 5)),
      S 25 (.ixa 1 (.t 23) (.t 24)),
      S 26 (.ld false 1 (.t 25)),
      S 27 (.call n_row6 [(.t 22), (.t 26)]),
      S 6 (.mv (.t 27))])
    (.seq (.ops [S 28 (.mv (.t 6)),
      S 29 (.bin .neq .none (.t 28) (xI 0))])
    (.cond (.t 29)
     (.seq (.ops [S 30 (.mv (.t 6)),
       S 4 (.mv (.t 30))])
     (.ret))
     (.skip)))))
   (.ops [S 17 (.mv (.t 5)),
     S 18 (.bin .add .none (.t 17) (xI 1)),
     S 5 (.mv (.t 18))]))))))
 (.seq (.seq (.ops [S 31 (.mv (.t 0)),
   S 32 (.len 0 (.t 31)),
   S 33 (.mv (.t 1)),
   S 34 (.len 0 (.t 33)),
   S 35 (.bin .lss .none (.t 32) (.t 34))])
 (.cond (.t 35)
  (.seq (.ops [S 4 (.mv (xI (-1)))])
  (.ret))
  (.skip)))
 (.seq (.seq (.ops [S 36 (.mv (.t 0)),
   S 37 (.len 0 (.t 36)),
   S 38 (.mv (.t 1)),
   S 39 (.len 0 (.t 38)),
   S 40 (.bin .gtr .none (.t 37) (.t 39))])
 (.cond (.t 40)
  (.seq (.ops [S 4 (.mv (xI 1))])
  (.ret))
  (.skip)))
 (.seq (.ops [S 4 (.mv (xI 0))])
 (.ret))))),
 [.tmp 4], false, true, false⟩
/- sibyl/sibylref06.row -/
def d_row6 : DFn := ⟨2,
 .seq (.ops [S 4 (.mv (xI 0))])
 (.seq (.seq (.ops [S 5 (.mv (xI 0))])
 (.block 0 (.loop [0, 1, 5] (.seq (.seq (.ops [S 6 (.mv (.t 5)),
     S 7 (.mv (.t 0)),
     S 8 (.len 0 (.t 7)),
     S 9 (.bin .lss .none (.t 6) (.t 8)),
     S 10 (.mv (.t 9)),
     ⟨(some 11), .mv (.t 5), (some (10, true)), []⟩,
     ⟨(some 12), .mv (.t 1), (some (10, true)), []⟩,
     ⟨(some 13), .len 0 (.t 12), (some (10, true)), []⟩,
     ⟨(some 14), .bin .lss .none (.t 11) (.t 13), (some (10, true)), []⟩,
     S 15 (.pick (.t 10) (.t 14) (xB false))])
   (.cond (.t 15)
    (.skip)
    (.exit 0)))
   (.seq (.block 1 (.seq (.seq (.ops [S 18 (.mv (.t 0)),
      S 19 (.mv (.t 5)),
      S 20 (.ixa 1 (.t 18) (.t 19)),
      S 21 (.ld false 1 (.t 20)),
      S 22 (.mv (.t 1)),
      S 23 (.mv (.t 5)),
      S 24 (.ixa 1 (.t 22) (.t 23)),
      S 25 (.ld false 1 (.t 24)),
      S 26 (.bin .lss .none (.t 21) (.t 25))])
    (.cond (.t 26)
     (.seq (.ops [S 4 (.mv (xI (-1)))])
     (.ret))
     (.skip)))
    (.seq (.ops [S 27 (.mv (.t 0)),
      S 28 (.mv (.t 5)),
      S 29 (.ixa 1 (.t 27) (.t 28)),
      S 30 (.ld false 1 (.t 29)),
      S 31 (.mv (.t 1)),
      S 32 (.mv (.t 5)),
      S 33 (.ixa 1 (.t 31) (.t 32)),
      S 34 (.ld false 1 (.t 33)),
      S 35 (.bin .gtr .none (.t 30) (.t 34))])
    (.cond (.t 35)
     (.seq (.ops [S 4 (.mv (xI 1))])
     (.ret))
     (.skip)))))
   (.ops [S 16 (.mv (.t 5)),
     S 17 (.bin .add .none (.t 16) (xI 1)),
     S 5 (.mv (.t 17))]))))))
 (.seq (.seq (.ops [S 36 (.mv (.t 0)),
   S 37 (.len 0 (.t 36)),
   S 38 (.mv (.t 1)),
   S 39 (.len 0 (.t 38)),
   S 40 (.bin .lss .none (.t 37) (.t 39))])
 (.cond (.t 40)
  (.seq (.ops [S 4 (.mv (xI (-1)))])
  (.ret))
  (.skip)))
 (.seq (.seq (.ops [S 41 (.mv (.t 0)),
   S 42 (.len 0 (.t 41)),
   S 43 (.mv (.t 1)),
   S 44 (.len 0 (.t 43)),
   S 45 (.bin .gtr .none (.t 42) (.t 44))])
 (.cond (.t 45)
  (.seq (.ops [S 4 (.mv (xI 1))])
  (.ret))
  (.skip)))
 (.seq (.ops [S 4 (.mv (xI 0))])
 (.ret))))),
 [.tmp 4], false, true, false⟩
/- sibyl/sibyllaw18.QueueHolds -/
def d_QueueHolds : DFn := ⟨2,
 .seq (.ops [S 2 (.box true 2 (.t 0)),
   S 4 (.mv (xB false))])
 (.seq (.ops [S 18 (.call n_qawake []),
   S 5 (.mv (.t 18))])
 (.seq (.ops [S 19 (.ld true 2 (.t 2)),
   S 20 (.call n_config [(.t 19)]),
   S 21 (.call n_qNew [(.t 20)]),
   S 6 (.mv (.t 21))])
 (.seq (.ops [S 7 (.mv (xI 0))])
 (.seq (.ops [S 8 (.nils 2 true)])
 (.seq (.ops [S 9 (.nils 2 true)])
 (.seq (.seq (.ops [S 10 (.mv (xI 0))])
 (.block 0 (.loop [1, 5, 6, 7, 8, 9, 10] (.seq (.seq (.ops [S 22 (.mv (.t 10)),
     S 23 (.mv (.t 1)),
     S 24 (.len 0 (.t 23)),
     S 25 (.bin .lss .none (.t 22) (.t 24)),
     S 26 (.mv (.t 25)),
     ⟨(some 27), .mv (.t 10), (some (26, true)), []⟩,
     ⟨(some 28), .bin .lss .none (.t 27) (xI 40), (some (26, true)), []⟩,
     S 29 (.pick (.t 26) (.t 28) (xB false))])
   (.cond (.t 29)
    (.skip)
    (.exit 0)))
   (.seq (.block 1 (.seq (.ops [S 33 (.mv (.t 1)),
      S 34 (.mv (.t 10)),
      S 35 (.ixa 6 (.t 33) (.t 34)),
      S 36 (.ld true 6 (.t 35)),
      S 37 (.mv (.t 10)),
      S 38 (.bin .add .none (.t 37) (xI 1)),
      S 39 (.call n_command [(.t 36), (.t 38)]),
      S 32 (.mv (.t 39)),
      S 40 (.ext (.t 32) 0),
      S 41 (.ext (.t 32) 1),
      S 11 (.new true [(eI 0), (eI 0), (eI 0), (eI 0), (eI 0), (eI 0), (eI 0), (eI 0), (eI 0), (eI 0), (eI 0), (.full []), (eI 0), (eB false)]),
      E (.st 14 (.t 11) (.t 40)),
      S 12 (.mv (.t 41))])
    (.seq (.ops [S 43 (.mv (.t 6)),
      S 44 (.mv (.t 10)),
      S 45 (.bin .add .none (.t 44) (xI 1)),
      S 46 (.ld true 14 (.t 11)),
      S 47 (.mv (.t 12)),
      S 48 (.call n_qDo [(.t 43), (.t 45), (.t 46), (.t 47)]),
      S 42 (.mv (.t 48)),
      S 49 (.ext (.t 42) 0),
      S 50 (.ext (.t 42) 1),
      S 13 (.new true [(eI 0), (eI 0), (.full [])]),
      E (.st 3 (.t 13) (.t 49)),
      S 14 (.mv (.t 50))])
    (.seq (.seq (.ops [S 15 (.mv (xI 0))])
    (.block 2 (.loop [1, 5, 6, 8, 9, 10, 11, 12, 14, 15] (.seq (.seq (.ops [S 51 (.mv (.t 15)),
        S 52 (.mv (.t 12)),
        S 53 (.len 0 (.t 52)),
        S 54 (.bin .lss .none (.t 51) (.t 53))])
      (.cond (.t 54)
       (.skip)
       (.exit 2)))
      (.seq (.block 3 (.seq (.ops [S 16 (.mv (xI 0))])
       (.block 4 (.loop [1, 5, 6, 8, 9, 10, 11, 12, 14, 15, 16] (.seq (.seq (.ops [S 57 (.mv (.t 16)),
           S 58 (.mv (.t 12)),
           S 59 (.mv (.t 15)),
           S 60 (.ixa 4 (.t 58) (.t 59)),
           S 61 (.fld 0 (.t 60)),
           S 62 (.ld false 1 (.t 61)),
           S 63 (.len 0 (.t 62)),
           S 64 (.bin .lss .none (.t 57) (.t 63))])
         (.cond (.t 64)
          (.skip)
          (.exit 4)))
         (.seq (.block 5 (.ops [S 67 (.mv (.t 8)),
            S 68 (.mv (.t 12)),
            S 69 (.mv (.t 15)),
            S 70 (.ixa 4 (.t 68) (.t 69)),
            S 71 (.fld 0 (.t 70)),
            S 72 (.ld false 1 (.t 71)),
            S 73 (.mv (.t 16)),
            S 74 (.ixa 3 (.t 72) (.t 73)),
            S 75 (.fld 1 (.t 74)),
            S 76 (.fld 1 (.t 75)),
            S 77 (.ld false 1 (.t 76)),
            S 78 (.app 2 true 16 (.t 67) (.t 77)),
            S 8 (.mv (.t 78))]))
         (.ops [S 65 (.mv (.t 16)),
           S 66 (.bin .add .none (.t 65) (xI 1)),
           S 16 (.mv (.t 66))])))))))
      (.ops [S 55 (.mv (.t 15)),
        S 56 (.bin .add .none (.t 55) (xI 1)),
        S 15 (.mv (.t 56))]))))))
    (.seq (.seq (.ops [S 79 (.fld 0 (.t 11)),
      S 80 (.ld false 1 (.t 79)),
      S 81 (.bin .eql .none (.t 80) (xI 1))])
    (.cond (.t 81)
     (.ops [S 82 (.mv (.t 8)),
       S 83 (.fld 9 (.t 11)),
       S 84 (.ld true 2 (.t 83)),
       S 85 (.lit 2 true [[(eI 0), (eI 0)]] [(0, (.t 84))]),
       S 86 (.app 2 true 16 (.t 82) (.t 85)),
       S 8 (.mv (.t 86))])
     (.skip)))
    (.seq (.ops [S 87 (.mv (.t 9)),
      S 88 (.mv (.t 14)),
      S 89 (.app 2 true 16 (.t 87) (.t 88)),
      S 9 (.mv (.t 89))])
    (.seq (.ops [S 90 (.mv (.t 8)),
      S 91 (.len 0 (.t 90)),
      S 92 (.mv (.t 9)),
      S 93 (.len 0 (.t 92)),
      S 94 (.bin .sub .none (.t 91) (.t 93)),
      S 7 (.mv (.t 94))])
    (.seq (.ops [S 95 (.mv (.t 7)),
      S 96 (.mv (.t 6)),
      S 97 (.call n_qHeld [(.t 96)]),
      S 98 (.bin .neq .none (.t 95) (.t 97))])
    (.cond (.t 98)
     (.seq (.ops [S 4 (.mv (xB false))])
     (.ret))
     (.skip))))))))))
   (.ops [S 30 (.mv (.t 10)),
     S 31 (.bin .add .none (.t 30) (xI 1)),
     S 10 (.mv (.t 31))]))))))
 (.seq (.seq (.ops [S 17 (.mv (xI 0))])
 (.block 6 (.loop [5, 7, 8, 9, 17] (.seq (.seq (.ops [S 99 (.mv (.t 17)),
     S 100 (.mv (.t 9)),
     S 101 (.len 0 (.t 100)),
     S 102 (.bin .lss .none (.t 99) (.t 101))])
   (.cond (.t 102)
    (.skip)
    (.exit 6)))
   (.seq (.block 7 (.seq (.ops [S 105 (.mv (.t 9)),
      S 106 (.mv (.t 9)),
      S 107 (.mv (.t 17)),
      S 108 (.ixa 2 (.t 106) (.t 107)),
      S 109 (.ld true 2 (.t 108)),
      S 111 (.mv (.t 8)),
      S 112 (.mv (.t 9)),
      S 113 (.mv (.t 17)),
      S 114 (.ixa 2 (.t 112) (.t 113)),
      S 115 (.ld true 2 (.t 114)),
      ⟨(some 110), .call n_Count6 [(.t 105), (.t 109)], none, [(115, .ld true 2 (.t 114), none)]⟩,
      S 116 (.call n_Count6 [(.t 111), (.t 115)]),
      S 117 (.bin .gtr .none (.t 110) (.t 116))])
    (.cond (.t 117)
     (.seq (.ops [S 4 (.mv (xB false))])
     (.ret))
     (.skip))))
   (.ops [S 103 (.mv (.t 17)),
     S 104 (.bin .add .none (.t 103) (xI 1)),
     S 17 (.mv (.t 104))]))))))
 (.seq (.ops [S 118 (.mv (.t 5)),
   S 119 (.mv (.t 118)),
   ⟨(some 120), .mv (.t 7), (some (119, true)), []⟩,
   ⟨(some 121), .bin .geq .none (.t 120) (xI 0), (some (119, true)), []⟩,
   S 122 (.pick (.t 119) (.t 121) (xB false)),
   S 4 (.mv (.t 122))])
 (.ret))))))))),
 [.tmp 4], false, true, false⟩

def progList : List (Nat × DFn) := [(n_QueueNone, d_QueueNone), (n_qawake, d_qawake), (n_qNew, d_qNew), (n_qDo, d_qDo), (n_config, d_config), (n_command, d_command), (n_qLive, d_qLive), (n_qWaiting, d_qWaiting), (n_qLost, d_qLost), (n_SameAnswer, d_SameAnswer), (n_SameRefs, d_SameRefs), (n_rHeld, d_rHeld), (n_rWaiting, d_rWaiting), (n_rLost, d_rLost), (n_hit, d_hit), (n_publish, d_publish), (n_poll, d_poll), (n_qrest, d_qrest), (n_qfind, d_qfind), (n_rpoll, d_rpoll), (n_publish1, d_publish1), (n_Merge, d_Merge), (n_publish2, d_publish2), (n_Merge1, d_Merge1), (n_Clone, d_Clone), (n_best, d_best), (n_Same, d_Same), (n_Count6, d_Count6), (n_qHeld, d_qHeld), (n_QueueBound, d_QueueBound), (n_QueueApart, d_QueueApart), (n_Compare6, d_Compare6), (n_row6, d_row6), (n_QueueHolds, d_QueueHolds)]
end Dk.Q
