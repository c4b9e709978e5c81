/- D's code of the functions, printed by a program of mine (DPrint). -/
import Derived.Test.YtalodgghnpnnkaaDoorQk6
import Derived.Test.YtalodgghnpnnkaaDoorQk5
set_option linter.unusedVariables false
set_option linter.unusedSimpArgs false
set_option linter.unusedSectionVars false
namespace Dk.M
open Go Dk
abbrev n_sibyllaw03_QueryNest : Nat := 3
abbrev n_sibyllaw03_awake : Nat := 5
abbrev n_query_Parse : Nat := 6
abbrev n_query_Name : Nat := 8
abbrev n_query_Print : Nat := 10
abbrev n_lex_Lex : Nat := 11
abbrev n_Parse1_e : Nat := 5012
abbrev n_Parse1_p : Nat := 13012
abbrev n_query_parser_query : Nat := 10013
abbrev n_query_keyword : Nat := 14
abbrev n_query_printable : Nat := 17
abbrev n_strings_Builder_WriteString : Nat := 18
abbrev n_query_text : Nat := 19
abbrev n_strconv_Itoa : Nat := 20
abbrev n_strings_Builder_String : Nat := 21
abbrev n_lex_skip : Nat := 22
abbrev n_lex_Each : Nat := 23
abbrev n_query_parser_must : Nat := 10024
abbrev n_query_parser_may : Nat := 25
abbrev n_query_parser_elem : Nat := 10026
abbrev n_query_parser_cond : Nat := 10027
abbrev n_query_parser_kind : Nat := 10028
abbrev n_strings_Contains : Nat := 29
abbrev n_query_Sound : Nat := 31
abbrev n_query_text_1 : Nat := 33
abbrev n_query_text_2 : Nat := 34
abbrev n_query_part_in : Nat := 35
abbrev n_strconv_FormatInt : Nat := 36
abbrev n_internal_strconv_Itoa : Nat := 37
abbrev n_strings_IndexByte : Nat := 38
abbrev n_lex_Each_1 : Nat := 39
abbrev n_lex_next : Nat := 40
abbrev n_query_parser_at : Nat := 41
abbrev n_query_parser_is : Nat := 42
abbrev n_query_parser_sum : Nat := 10043
abbrev n_query_parser_pick : Nat := 10044
abbrev n_query_row_now : Nat := 45
abbrev n_strings_Index : Nat := 46
abbrev n_query_takes : Nat := 49
abbrev n_internal_strconv_FormatInt : Nat := 51
abbrev n_internal_stringslite_IndexByte : Nat := 52
abbrev n_lex_next_1 : Nat := 53
abbrev n_lex_small : Nat := 54
abbrev n_lex_digit : Nat := 55
abbrev n_lex_run : Nat := 56
abbrev n_lex_number : Nat := 57
abbrev n_lex_ends : Nat := 58
abbrev n_lex_letter : Nat := 59
abbrev n_lex_sign : Nat := 60
abbrev n_query_parser_chain : Nat := 10061
abbrev n_query_parser_product : Nat := 10062
abbrev n_slices_IndexFunc_77 : Nat := 63
abbrev n_internal_stringslite_Index : Nat := 64
abbrev n_internal_strconv_small : Nat := 71
abbrev n_query_parser_unary : Nat := 10076
abbrev n_internal_bytealg_Cutover : Nat := 78
abbrev n_internal_bytealg_IndexRabinKarp : Nat := 79
abbrev n_query_parser_within : Nat := 10086
abbrev n_internal_bytealg_hashStr : Nat := 87
class Mx where
 m : Int
variable [Mx]
abbrev mxTab : List PD := [.int .i64 Mx.m]
@[reducible] def gtab (n : Nat) : Option (List PD) := match n with
 | 0 => some [(.str (bs [61])), (.str (bs [33, 61])), (.str (bs [60])), (.str (bs [60, 61])), (.str (bs [62])), (.str (bs [62, 61]))]
 | 1 => some mxTab
 | _ => none
@[reducible] instance globs : Globs := ⟨gtab, 56, 5⟩
def d_sibyllaw03_QueryNest : DFn := ⟨2,
 .seq (.ops [S 4 (.mv (xB false))])
 (.seq (.ops [S 13 (.call n_sibyllaw03_awake []),
  S 5 (.mv (.t 13))])
 (.seq (.ops [S 14 (.mv (.t 0)),
  S 15 (.bin .rem .none (.t 14) (xI 31)),
  S 16 (.bin .add .none (.t 15) (xI 31)),
  S 17 (.bin .rem .none (.t 16) (xI 31)),
  S 6 (.mv (.t 17))])
 (.seq (.ops [S 7 (.mv (.v (.p (.str (bs [115, 101, 113, 32, 65, 32, 97, 32, 119, 104, 101, 114, 101, 32])))))])
 (.seq (.ops [S 8 (.mv (.v (.p (.str (bs [])))))])
 (.seq (.seq (.ops [S 9 (.mv (xI 0))])
 (.block 0 (.loop [1, 5, 6, 7, 8, 9] (.seq (.seq (.ops [S 18 (.mv (.t 9)),
  S 19 (.mv (.t 6)),
  S 20 (.bin .lss .none (.t 18) (.t 19))])
  (.cond (.t 20)
   (.skip)
   (.exit 0)))
  (.seq (.block 1 (.seq (.ops [S 23 (.mv (.t 1)),
     S 24 (.mv (.t 9)),
     S 25 (.conv .u64 (.t 24)),
     S 26 (.bin .shr .none (.t 23) (.t 25)),
     S 27 (.bin .and .none (.t 26) (xI 1)),
     S 28 (.bin .eql .none (.t 27) (xI 1))])
   (.cond (.t 28)
    (.seq (.ops [S 29 (.mv (.t 7)),
     S 30 (.bin .add .none (.t 29) (.v (.p (.str (bs [40]))))),
     S 7 (.mv (.t 30))])
    (.ops [S 31 (.mv (.t 8)),
     S 32 (.bin .add .none (.t 31) (.v (.p (.str (bs [41]))))),
     S 8 (.mv (.t 32))]))
    (.ops [S 33 (.mv (.t 7)),
     S 34 (.bin .add .none (.t 33) (.v (.p (.str (bs [45]))))),
     S 7 (.mv (.t 34))]))))
  (.ops [S 21 (.mv (.t 9)),
   S 22 (.bin .add .none (.t 21) (xI 1)),
   S 9 (.mv (.t 22))]))))))
 (.seq (.ops [S 36 (.mv (.t 7)),
  S 37 (.bin .add .none (.t 36) (.v (.p (.str (bs [49]))))),
  S 38 (.mv (.t 8)),
  S 39 (.bin .add .none (.t 37) (.t 38)),
  S 40 (.bin .add .none (.t 39) (.v (.p (.str (bs [32, 61, 32, 48, 32, 119, 105, 116, 104, 105, 110, 32, 51]))))),
  S 41 (.call n_query_Parse [(.t 40)]),
  S 35 (.mv (.t 41)),
  S 42 (.ext (.t 35) 0),
  S 43 (.ext (.t 35) 1),
  S 44 (.ext (.t 35) 2),
  S 10 (.new true [(.full []), (.full []), (eI 0), (eB false)]),
  E (.st 4 (.t 10) (.t 42)),
  S 11 (.mv (.t 43)),
  S 12 (.mv (.t 44))])
 (.seq (.seq (.ops [S 45 (.mv (.t 6)),
  S 46 (.bin .gtr .none (.t 45) (xI 16))])
 (.cond (.t 46)
  (.seq (.ops [S 47 (.mv (.t 5)),
   S 48 (.mv (.t 47)),
   ⟨(some 49), .mv (.t 12), (some (48, true)), []⟩,
   ⟨(some 50), .bin .eql .none (.t 49) (xI 12), (some (48, true)), []⟩,
   S 51 (.pick (.t 48) (.t 50) (xB false)),
   S 52 (.mv (.t 51)),
   ⟨(some 53), .mv (.t 11), (some (52, true)), []⟩,
   ⟨(some 54), .bin .eql .none (.t 53) (xI 30), (some (52, true)), []⟩,
   S 55 (.pick (.t 52) (.t 54) (xB false)),
   S 56 (.mv (.t 55)),
   ⟨(some 57), .fld 0 (.t 10), (some (56, true)), []⟩,
   ⟨(some 58), .ld false 1 (.t 57), (some (56, true)), []⟩,
   ⟨(some 59), .len 0 (.t 58), (some (56, true)), []⟩,
   ⟨(some 60), .bin .eql .none (.t 59) (xI 0), (some (56, true)), []⟩,
   S 61 (.pick (.t 56) (.t 60) (xB false)),
   S 4 (.mv (.t 61))])
  (.ret))
  (.skip)))
 (.seq (.ops [S 62 (.mv (.t 5)),
  S 63 (.mv (.t 62)),
  ⟨(some 64), .mv (.t 12), (some (63, true)), []⟩,
  ⟨(some 65), .bin .eql .none (.t 64) (xI 0), (some (63, true)), []⟩,
  S 66 (.pick (.t 63) (.t 65) (xB false)),
  S 67 (.mv (.t 66)),
  ⟨(some 68), .fld 1 (.t 10), (some (67, true)), []⟩,
  ⟨(some 69), .ld false 1 (.t 68), (some (67, true)), []⟩,
  ⟨(some 70), .len 0 (.t 69), (some (67, true)), []⟩,
  ⟨(some 71), .bin .eql .none (.t 70) (xI 1), (some (67, true)), []⟩,
  S 72 (.pick (.t 67) (.t 71) (xB false)),
  S 4 (.mv (.t 72))])
 (.ret))))))))),
 [.tmp 4], false, true, false⟩
def d_sibyllaw03_awake : DFn := ⟨0,
 .seq (.ops [S 0 (.mv (xB false))])
 (.seq (.ops [S 8 (.call n_query_Parse [(.v (.p (.str (bs [115, 101, 113, 32, 65, 32, 97, 44, 66, 43, 98, 32, 119, 104, 101, 114, 101, 32, 40, 97, 46, 120, 41, 45, 49, 60, 35, 98, 32, 119, 105, 116, 104, 105, 110, 32, 53]))))]),
  S 7 (.mv (.t 8)),
  S 9 (.ext (.t 7) 0),
  S 10 (.ext (.t 7) 1),
  S 11 (.ext (.t 7) 2),
  S 1 (.new true [(.full []), (.full []), (eI 0), (eB false)]),
  E (.st 4 (.t 1) (.t 9)),
  S 2 (.mv (.t 10)),
  S 3 (.mv (.t 11))])
 (.seq (.ops [S 13 (.call n_query_Parse [(.v (.p (.str (bs [115, 101, 113, 32, 65]))))]),
  S 12 (.mv (.t 13)),
  S 14 (.ext (.t 12) 0),
  S 15 (.ext (.t 12) 1),
  S 16 (.ext (.t 12) 2),
  S 4 (.new true [(.full []), (.full []), (eI 0), (eB false)]),
  E (.st 4 (.t 4) (.t 14)),
  S 5 (.mv (.t 15)),
  S 6 (.mv (.t 16))])
 (.seq (.ops [S 17 (.mv (.t 3)),
  S 18 (.bin .eql .none (.t 17) (xI 0)),
  S 19 (.mv (.t 18)),
  ⟨(some 20), .ld true 4 (.t 1), (some (19, true)), []⟩,
  ⟨(some 21), .call n_query_Print [(.t 20)], (some (19, true)), []⟩,
  ⟨(some 22), .bin .eql .none (.t 21) (.v (.p (.str (bs [115, 101, 113, 32, 65, 32, 97, 44, 32, 66, 43, 32, 98, 32, 119, 104, 101, 114, 101, 32, 97, 46, 120, 32, 45, 32, 49, 32, 60, 32, 35, 98, 32, 119, 105, 116, 104, 105, 110, 32, 53])))), (some (19, true)), []⟩,
  S 23 (.pick (.t 19) (.t 22) (xB false)),
  S 24 (.mv (.t 23)),
  ⟨(some 25), .mv (.t 6), (some (24, true)), []⟩,
  ⟨(some 26), .bin .eql .none (.t 25) (xI 11), (some (24, true)), []⟩,
  S 27 (.pick (.t 24) (.t 26) (xB false)),
  S 28 (.mv (.t 27)),
  ⟨(some 29), .mv (.t 5), (some (28, true)), []⟩,
  ⟨(some 30), .bin .eql .none (.t 29) (xI 5), (some (28, true)), []⟩,
  S 31 (.pick (.t 28) (.t 30) (xB false)),
  S 0 (.mv (.t 31))])
 (.ret)))),
 [.tmp 0], false, true, false⟩
def d_query_Parse : DFn := ⟨1,
 .seq (.ops [S 2 (.new true [(.full []), (.full []), (eI 0), (eB false)]),
  S 3 (.new false [(eI 0)]),
  S 4 (.new false [(eI 0)])])
 (.seq (.ops [S 8 (.mv (.t 0)),
  S 9 (.call n_lex_Lex [(.t 8)]),
  S 7 (.mv (.t 9)),
  S 10 (.ext (.t 7) 0),
  S 11 (.ext (.t 7) 1),
  S 12 (.ext (.t 7) 2),
  S 5 (.mv (.t 10)),
  E (.st 1 (.t 3) (.t 11)),
  E (.st 1 (.t 4) (.t 12))])
 (.seq (.seq (.ops [S 13 (.ld false 1 (.t 4)),
  S 14 (.bin .neq .none (.t 13) (xI 0))])
 (.cond (.t 14)
  (.seq (.ops [S 15 (.build [(.full []), (.full []), (eI 0), (eB false)] []),
   S 16 (.ld false 1 (.t 3)),
   S 17 (.ld false 1 (.t 4)),
   ⟨none, .st 4 (.t 2) (.t 15), none, [(17, .ld false 1 (.t 4), none), (16, .ld false 1 (.t 3), none)]⟩,
   ⟨none, .st 1 (.t 3) (.t 16), none, [(17, .ld false 1 (.t 4), none)]⟩,
   E (.st 1 (.t 4) (.t 17))])
  (.ret))
  (.skip)))
 (.seq (.ops [S 18 (.mkf (.func 12) [] [(.t 2), (.t 3), (.t 4)])])
 (.seq (.ops [⟨none, .mv (.v .nili), none, [(18, .mkf (.func 12) [] [(.t 2), (.t 3), (.t 4)], none)]⟩])
 (.block 900002 (.seq (.block 900001 (.seq (.block 900000 (.seq (.ops [S 19 (.mv (.t 5)),
      S 20 (.build [(.full []), (eI 0)] [(0, 1, (.t 19))]),
      S 21 (.mv (.t 0)),
      S 22 (.len 1 (.t 21)),
      S 23 (.build [(.full []), (eI 0), (eI 0), (eI 0)] [(0, 2, (.t 20)), (2, 1, (.t 22))]),
      S 24 (.box true 4 (.t 23)),
      S 6 (.mv (.t 24))])
    (.seq (.seq (.ops [S 25 (.mv (.t 6))])
    (.seq (.ops [S 3000 (.may (.v (.fn (.func 13) [] [])) [(.t 25)]),
     S 3001 (.ext (.t 3000) 0)])
    (.cond (.t 3001)
     (.seq (.ops [S 3002 (.ext (.t 3000) 1),
      S 3000 (.mv (.v (.tup []))),
      S 3001 (.mv (.v (.tup [])))])
     (.exit 900001))
     (.seq (.ops [S 26 (.ext (.t 3000) 1),
      S 3000 (.mv (.v (.tup []))),
      S 3001 (.mv (.v (.tup [])))])
     (.seq (.ops [S 27 (.mv (.t 0))])
     (.seq (.ops [S 28 (.len 1 (.t 27))])
     (.seq (.ops [E (.st 4 (.t 2) (.t 26))])
     (.seq (.ops [E (.st 1 (.t 3) (.t 28))])
     (.seq (.ops [E (.st 1 (.t 4) (xI 0))])
     (.skip))))))))))
    (.exit 900000))))
  (.seq (.ops [E (.call n_Parse1_e [(.t 2), (.t 3), (.t 4), (.v (.p (.agg [])))])])
  (.exit 900002))))
  (.ops [E (.call n_Parse1_p [(.t 2), (.t 3), (.t 4), (.t 3002), (.v (.p (.agg [(.bool false)])))])]))))))),
 [.cell 2 true 4, .cell 3 false 1, .cell 4 false 1], false, false, false⟩
def d_query_Name : DFn := ⟨1,
 .seq (.ops [S 2 (.mv (xB false))])
 (.seq (.ops [S 7 (.mv (.t 0)),
  S 8 (.call n_lex_Lex [(.t 7)]),
  S 6 (.mv (.t 8)),
  S 9 (.ext (.t 6) 0),
  S 10 (.ext (.t 6) 1),
  S 11 (.ext (.t 6) 2),
  S 3 (.mv (.t 9)),
  S 4 (.mv (.t 10)),
  S 5 (.mv (.t 11))])
 (.seq (.ops [S 12 (.mv (.t 3)),
  S 13 (.len 0 (.t 12)),
  S 14 (.bin .eql .none (.t 13) (xI 1)),
  S 15 (.mv (.t 14)),
  ⟨(some 16), .mv (.t 3), (some (15, true)), []⟩,
  ⟨(some 17), .ixa 4 (.t 16) (xI 0), (some (15, true)), []⟩,
  ⟨(some 18), .fld 0 (.t 17), (some (15, true)), []⟩,
  ⟨(some 19), .ld false 1 (.t 18), (some (15, true)), []⟩,
  ⟨(some 20), .bin .eql .none (.t 19) (xI 1), (some (15, true)), []⟩,
  S 21 (.pick (.t 15) (.t 20) (xB false)),
  S 22 (.mv (.t 21)),
  ⟨(some 23), .mv (.t 3), (some (22, true)), []⟩,
  ⟨(some 24), .ixa 4 (.t 23) (xI 0), (some (22, true)), []⟩,
  ⟨(some 25), .fld 2 (.t 24), (some (22, true)), []⟩,
  ⟨(some 26), .ld false 1 (.t 25), (some (22, true)), []⟩,
  ⟨(some 27), .mv (.t 0), (some (22, true)), []⟩,
  ⟨(some 28), .bin .eql .none (.t 26) (.t 27), (some (22, true)), []⟩,
  S 29 (.pick (.t 22) (.t 28) (xB false)),
  S 30 (.mv (.t 29)),
  ⟨(some 31), .mv (.t 0), (some (30, true)), []⟩,
  ⟨(some 32), .call n_query_keyword [(.t 31)], (some (30, true)), []⟩,
  ⟨(some 33), .un .not (.t 32), (some (30, true)), []⟩,
  S 34 (.pick (.t 30) (.t 33) (xB false)),
  S 2 (.mv (.t 34))])
 (.ret))),
 [.tmp 2], false, true, false⟩
def d_query_Print : DFn := ⟨1,
 .seq (.ops [S 1 (.box true 4 (.t 0)),
  S 2 (.mv (.v (.p (.str (bs [])))))])
 (.seq (.seq (.ops [S 9 (.ld true 4 (.t 1)),
  S 10 (.call n_query_printable [(.t 9)]),
  S 11 (.un .not (.t 10))])
 (.cond (.t 11)
  (.seq (.ops [S 2 (.mv (.v (.p (.str (bs [])))))])
  (.ret))
  (.skip)))
 (.seq (.ops [S 3 (.nbld)])
 (.seq (.ops [S 4 (.mv (.v (.p (.str (bs [115, 101, 113, 32])))))])
 (.seq (.seq (.ops [S 12 (.fld 0 (.t 1)),
  S 13 (.ld false 1 (.t 12)),
  S 14 (.len 0 (.t 13)),
  S 15 (.mv (xI 0))])
 (.block 0 (.loop [1, 3, 4, 13, 14, 15] (.seq (.ops [S 16 (.bin .lss .none (.t 15) (.t 14))])
  (.seq (.cond (.t 16)
   (.skip)
   (.exit 0))
  (.seq (.block 1 (.seq (.ops [S 17 (.ixa 4 (.t 13) (.t 15)),
     S 18 (.ld true 4 (.t 17)),
     S 6 (.new true [(eI 0), (.p (.str (bs []))), (eB false), (eB false)]),
     E (.st 4 (.t 6) (.t 18))])
   (.seq (.ops [S 19 (.mv (.t 4)),
    S 20 (.call n_strings_Builder_WriteString [(.t 3), (.t 19)])])
   (.seq (.ops [S 4 (.mv (.v (.p (.str (bs [44, 32])))))])
   (.seq (.seq (.ops [S 21 (.fld 3 (.t 6)),
    S 22 (.ld false 1 (.t 21))])
   (.cond (.t 22)
    (.ops [S 23 (.call n_strings_Builder_WriteString [(.t 3), (.v (.p (.str (bs [33]))))])])
    (.skip)))
   (.seq (.ops [S 24 (.fld 0 (.t 6)),
    S 25 (.ld false 1 (.t 24)),
    S 26 (.fld 0 (.t 6)),
    S 27 (.ld false 1 (.t 26)),
    S 28 (.bin .add .none (.t 27) (xI 1)),
    S 29 (.sls (.v (.p (.str (bs [65, 66, 67, 68, 69, 70, 71, 72])))) (some (.t 25)) (some (.t 28))),
    S 30 (.call n_strings_Builder_WriteString [(.t 3), (.t 29)])])
   (.seq (.seq (.ops [S 31 (.fld 2 (.t 6)),
    S 32 (.ld false 1 (.t 31))])
   (.cond (.t 32)
    (.ops [S 33 (.call n_strings_Builder_WriteString [(.t 3), (.v (.p (.str (bs [43]))))])])
    (.skip)))
   (.ops [S 34 (.fld 1 (.t 6)),
    S 35 (.ld false 1 (.t 34)),
    S 36 (.bin .add .none (.v (.p (.str (bs [32])))) (.t 35)),
    S 37 (.call n_strings_Builder_WriteString [(.t 3), (.t 36)])]))))))))
  (.ops [S 38 (.bin .add .none (.t 15) (xI 1)),
   S 15 (.mv (.t 38))])))))))
 (.seq (.ops [S 4 (.mv (.v (.p (.str (bs [32, 119, 104, 101, 114, 101, 32])))))])
 (.seq (.seq (.ops [S 39 (.fld 1 (.t 1)),
  S 40 (.ld false 1 (.t 39)),
  S 41 (.len 0 (.t 40)),
  S 42 (.mv (xI 0))])
 (.block 2 (.loop [1, 3, 4, 40, 41, 42] (.seq (.ops [S 43 (.bin .lss .none (.t 42) (.t 41))])
  (.seq (.cond (.t 43)
   (.skip)
   (.exit 2))
  (.seq (.block 3 (.seq (.ops [S 44 (.ixa 3 (.t 40) (.t 42)),
     S 45 (.ld true 3 (.t 44)),
     S 8 (.new true [(eI 0), (.full []), (.full [])]),
     E (.st 3 (.t 8) (.t 45))])
   (.seq (.ops [S 46 (.mv (.t 4)),
    S 47 (.fld 1 (.t 8)),
    S 48 (.ld false 1 (.t 47)),
    S 52 (.fld 0 (.t 8)),
    S 53 (.ld false 1 (.t 52)),
    S 54 (.bin .sub .none (.t 53) (xI 1)),
    S 55 (.ixp 6 1 (.v (.cp [(.str (bs [61])), (.str (bs [33, 61])), (.str (bs [60])), (.str (bs [60, 61])), (.str (bs [62])), (.str (bs [62, 61]))] 0)) (.t 54)),
    S 56 (.ld false 1 (.t 55)),
    S 59 (.fld 2 (.t 8)),
    S 60 (.ld false 1 (.t 59)),
    ⟨(some 49), .call n_query_text [(.t 48)], none, [(60, .ld false 1 (.t 59), none), (56, .ld false 1 (.t 55), none), (53, .ld false 1 (.t 52), none)]⟩,
    S 50 (.bin .add .none (.t 46) (.t 49)),
    S 51 (.bin .add .none (.t 50) (.v (.p (.str (bs [32]))))),
    S 57 (.bin .add .none (.t 51) (.t 56)),
    S 58 (.bin .add .none (.t 57) (.v (.p (.str (bs [32]))))),
    ⟨(some 61), .call n_query_text [(.t 60)], none, [(56, .ld false 1 (.t 55), none), (53, .ld false 1 (.t 52), none)]⟩,
    S 62 (.bin .add .none (.t 58) (.t 61)),
    S 63 (.call n_strings_Builder_WriteString [(.t 3), (.t 62)])])
   (.ops [S 4 (.mv (.v (.p (.str (bs [32, 97, 110, 100, 32])))))]))))
  (.ops [S 64 (.bin .add .none (.t 42) (xI 1)),
   S 42 (.mv (.t 64))])))))))
 (.seq (.ops [S 65 (.fld 2 (.t 1)),
  S 66 (.ld false 1 (.t 65)),
  S 67 (.call n_strconv_Itoa [(.t 66)]),
  S 68 (.bin .add .none (.v (.p (.str (bs [32, 119, 105, 116, 104, 105, 110, 32])))) (.t 67)),
  S 69 (.call n_strings_Builder_WriteString [(.t 3), (.t 68)])])
 (.seq (.seq (.ops [S 70 (.fld 3 (.t 1)),
  S 71 (.ld false 1 (.t 70))])
 (.cond (.t 71)
  (.ops [S 72 (.call n_strings_Builder_WriteString [(.t 3), (.v (.p (.str (bs [32, 98, 121, 32, 107, 101, 121]))))])])
  (.skip)))
 (.seq (.ops [S 73 (.call n_strings_Builder_String [(.t 3)]),
  S 2 (.mv (.t 73))])
 (.ret)))))))))),
 [.tmp 2], false, true, false⟩
def ra_lex_Lex0 : DC :=
 .ops [S 7 (.new true [(eI 0), (eI 0), (.p (.str (bs []))), (eI 0)]),
  E (.st 4 (.t 7) (.t 12))]
def rb_lex_Lex0 : DC :=
 .block 1 (.seq (.seq (.ops [S 13 (.ld false 1 (.t 5)),
    S 14 (.len 0 (.t 13)),
    S 15 (.bin .eql .none (.t 14) (xI 200))])
  (.cond (.t 15)
   (.seq (.ops [S 16 (.fld 1 (.t 7)),
    S 17 (.ld false 1 (.t 16)),
    ⟨none, .st 1 (.t 2) (.v (.full [])), none, [(17, .ld false 1 (.t 16), none)]⟩,
    E (.st 1 (.t 3) (.t 17)),
    E (.st 1 (.t 4) (xI 12))])
   (.ret))
   (.skip)))
  (.seq (.ops [S 18 (.ld false 1 (.t 5)),
   S 19 (.ld true 4 (.t 7)),
   S 20 (.lit 4 true [[(eI 0), (eI 0), (.p (.str (bs []))), (eI 0)]] [(0, (.t 19))]),
   S 21 (.app 4 true 40 (.t 18) (.t 20)),
   E (.st 1 (.t 5) (.t 21))])
  (.ops [S 22 (.ld false 1 (.t 1)),
   S 23 (.fld 1 (.t 7)),
   S 24 (.ld false 1 (.t 23)),
   S 25 (.fld 2 (.t 7)),
   S 26 (.ld false 1 (.t 25)),
   S 27 (.len 1 (.t 26)),
   S 28 (.bin .add .none (.t 24) (.t 27)),
   S 29 (.call n_lex_skip [(.t 22), (.t 28)]),
   E (.st 1 (.t 6) (.t 29))])))
def d_lex_Lex : DFn := ⟨1,
 .seq (.ops [S 1 (.box false 1 (.t 0)),
  S 2 (.new false [(.full [])]),
  S 3 (.new false [(eI 0)]),
  S 4 (.new false [(eI 0)])])
 (.seq (.ops [S 5 (.new false [(.full [])])])
 (.seq (.ops [S 8 (.ld false 1 (.t 1)),
  S 9 (.call n_lex_skip [(.t 8), (xI 0)]),
  S 6 (.new false [(eI 0)]),
  E (.st 1 (.t 6) (.t 9))])
 (.seq (.seq (.ops [S 10 (.ld false 1 (.t 1)),
  S 11 (.call n_lex_Each [(.t 10)])])
 (.block 0 (.range [12] [1, 2, 3, 4, 5, 6] (.t 11) ra_lex_Lex0 rb_lex_Lex0)))
 (.seq (.seq (.ops [S 30 (.ld false 1 (.t 6)),
  S 31 (.ld false 1 (.t 1)),
  S 32 (.len 1 (.t 31)),
  S 33 (.bin .lss .none (.t 30) (.t 32))])
 (.cond (.t 33)
  (.seq (.ops [S 34 (.ld false 1 (.t 6)),
   ⟨none, .st 1 (.t 2) (.v (.full [])), none, [(34, .ld false 1 (.t 6), none)]⟩,
   E (.st 1 (.t 3) (.t 34)),
   E (.st 1 (.t 4) (xI 10))])
  (.ret))
  (.skip)))
 (.seq (.ops [S 35 (.ld false 1 (.t 5)),
  S 36 (.ld false 1 (.t 1)),
  S 37 (.len 1 (.t 36)),
  ⟨none, .st 1 (.t 2) (.t 35), none, [(36, .ld false 1 (.t 1), none)]⟩,
  E (.st 1 (.t 3) (.t 37)),
  E (.st 1 (.t 4) (xI 0))])
 (.ret)))))),
 [.cell 2 false 1, .cell 3 false 1, .cell 4 false 1], true, true, false⟩
def d_Parse1_e : DFn := ⟨4,
 .seq (.ops [⟨(some 3), .mv (.v (.tup [])), none, [(3, .mv (.v (.p (.agg []))), none)]⟩])
 (.seq (.ops [S 6 (.mv (.v .nili)),
  S 7 (.asr 39 (.agg [(eI 0), (eI 0)]) (.t 6)),
  S 5 (.mv (.t 7)),
  S 8 (.ext (.t 5) 0),
  S 9 (.ext (.t 5) 1),
  S 3 (.new true [(eI 0), (eI 0)]),
  E (.st 2 (.t 3) (.t 8)),
  S 4 (.mv (.t 9))])
 (.seq (.ops [S 10 (.mv (.t 4))])
 (.cond (.t 10)
  (.ops [S 11 (.build [(.full []), (.full []), (eI 0), (eB false)] []),
   S 12 (.fld 0 (.t 3)),
   S 13 (.ld false 1 (.t 12)),
   S 14 (.fld 1 (.t 3)),
   S 15 (.ld false 1 (.t 14)),
   ⟨none, .st 4 (.t 0) (.t 11), none, [(15, .ld false 1 (.t 14), none), (13, .ld false 1 (.t 12), none)]⟩,
   ⟨none, .st 1 (.t 1) (.t 13), none, [(15, .ld false 1 (.t 14), none)]⟩,
   E (.st 1 (.t 2) (.t 15))])
  (.skip)))),
 [], false, false, false⟩
def d_Parse1_p : DFn := ⟨5,
 .seq (.ops [⟨(some 4), .mv (.v (.tup [])), none, [(4, .mv (.v (.p (.agg [(.bool false)]))), none)]⟩])
 (.seq (.ops [S 6 (.mv (.t 3)),
  S 3 (.mv (.v (.tup [])))])
 (.seq (.ops [S 7 (.asr 39 (.agg [(eI 0), (eI 0)]) (.t 6)),
  S 5 (.mv (.t 7)),
  S 8 (.ext (.t 5) 0),
  S 9 (.ext (.t 5) 1),
  S 3 (.new true [(eI 0), (eI 0)]),
  E (.st 2 (.t 3) (.t 8)),
  S 4 (.mv (.t 9))])
 (.seq (.ops [S 10 (.mv (.t 4))])
 (.cond (.t 10)
  (.ops [S 11 (.build [(.full []), (.full []), (eI 0), (eB false)] []),
   S 12 (.fld 0 (.t 3)),
   S 13 (.ld false 1 (.t 12)),
   S 14 (.fld 1 (.t 3)),
   S 15 (.ld false 1 (.t 14)),
   ⟨none, .st 4 (.t 0) (.t 11), none, [(15, .ld false 1 (.t 14), none), (13, .ld false 1 (.t 12), none)]⟩,
   ⟨none, .st 1 (.t 1) (.t 13), none, [(15, .ld false 1 (.t 14), none)]⟩,
   E (.st 1 (.t 2) (.t 15))])
  (.skip))))),
 [], false, false, false⟩
def d_query_parser_query : DFn := ⟨2,
 .seq (.ops [⟨(some 1), .mv (.v (.tup [])), none, [(1, .mv (.v (.p (.agg [(.bool true)]))), none)]⟩])
 (.block 900002 (.seq (.block 900001 (.seq (.block 900000 (.seq (.ops [S 2 (.new true [(.full []), (.full []), (eI 0), (eB false)])])
    (.seq (.seq (.ops [S 5 (.mv (.t 0))])
    (.seq (.ops [S 6 (.mv (.t 0))])
    (.seq (.ops [S 7 (.call n_query_parser_may [(.t 6), (.v (.p (.str (bs [115, 101, 113]))))])])
    (.seq (.ops [S 3000 (.may (.v (.fn (.func 24) [] [])) [(.t 5), (.t 7)]),
     S 3001 (.ext (.t 3000) 0)])
    (.cond (.t 3001)
     (.seq (.ops [S 3002 (.ext (.t 3000) 1),
      S 3000 (.mv (.v (.tup []))),
      S 3001 (.mv (.v (.tup [])))])
     (.exit 900001))
     (.seq (.ops [S 8 (.ext (.t 3000) 1),
      S 3000 (.mv (.v (.tup []))),
      S 3001 (.mv (.v (.tup [])))])
     (.skip)))))))
    (.seq (.seq (.ops [S 3 (.mv (xB true))])
    (.block 0 (.loop [0, 2, 3] (.seq (.seq (.ops [S 9 (.mv (.t 3))])
     (.cond (.t 9)
      (.skip)
      (.exit 0)))
     (.seq (.block 1 (.seq (.ops [S 12 (.fld 0 (.t 2))])
      (.seq (.ops [S 13 (.ld false 1 (.t 12))])
      (.seq (.ops [S 14 (.mv (.t 0))])
      (.seq (.ops [⟨(some 3000), .may (.v (.fn (.func 26) [] [])) [(.t 14)], none, [(13, .ld false 1 (.t 12), none)]⟩,
       S 3001 (.ext (.t 3000) 0)])
      (.cond (.t 3001)
       (.seq (.ops [S 3002 (.ext (.t 3000) 1),
        S 3000 (.mv (.v (.tup []))),
        S 3001 (.mv (.v (.tup [])))])
       (.exit 900001))
       (.seq (.ops [S 15 (.ext (.t 3000) 1),
        S 3000 (.mv (.v (.tup []))),
        S 3001 (.mv (.v (.tup [])))])
       (.seq (.ops [S 16 (.lit 4 true [[(eI 0), (.p (.str (bs []))), (eB false), (eB false)]] [(0, (.t 15))])])
       (.seq (.ops [S 17 (.app 4 true 32 (.t 13) (.t 16))])
       (.seq (.ops [S 18 (.fld 0 (.t 2))])
       (.seq (.ops [E (.st 1 (.t 18) (.t 17))])
       (.skip))))))))))))
     (.ops [S 10 (.mv (.t 0)),
      S 11 (.call n_query_parser_may [(.t 10), (.v (.p (.str (bs [44]))))]),
      S 3 (.mv (.t 11))]))))))
    (.seq (.seq (.ops [S 19 (.mv (.t 0)),
     S 20 (.call n_query_parser_may [(.t 19), (.v (.p (.str (bs [119, 104, 101, 114, 101]))))]),
     S 4 (.mv (.t 20))])
    (.block 2 (.loop [0, 2, 4] (.seq (.seq (.ops [S 21 (.mv (.t 4))])
     (.cond (.t 21)
      (.skip)
      (.exit 2)))
     (.seq (.block 3 (.seq (.ops [S 24 (.fld 1 (.t 2))])
      (.seq (.ops [S 25 (.ld false 1 (.t 24))])
      (.seq (.ops [S 26 (.mv (.t 0))])
      (.seq (.ops [⟨(some 3000), .may (.v (.fn (.func 27) [] [])) [(.t 26)], none, [(25, .ld false 1 (.t 24), none)]⟩,
       S 3001 (.ext (.t 3000) 0)])
      (.cond (.t 3001)
       (.seq (.ops [S 3002 (.ext (.t 3000) 1),
        S 3000 (.mv (.v (.tup []))),
        S 3001 (.mv (.v (.tup [])))])
       (.exit 900001))
       (.seq (.ops [S 27 (.ext (.t 3000) 1),
        S 3000 (.mv (.v (.tup []))),
        S 3001 (.mv (.v (.tup [])))])
       (.seq (.ops [S 28 (.lit 3 true [[(eI 0), (.full []), (.full [])]] [(0, (.t 27))])])
       (.seq (.ops [S 29 (.app 3 true 56 (.t 25) (.t 28))])
       (.seq (.ops [S 30 (.fld 1 (.t 2))])
       (.seq (.ops [E (.st 1 (.t 30) (.t 29))])
       (.skip))))))))))))
     (.ops [S 22 (.mv (.t 0)),
      S 23 (.call n_query_parser_may [(.t 22), (.v (.p (.str (bs [97, 110, 100]))))]),
      S 4 (.mv (.t 23))]))))))
    (.seq (.seq (.ops [S 31 (.mv (.t 0))])
    (.seq (.ops [S 32 (.mv (.t 0))])
    (.seq (.ops [S 33 (.call n_query_parser_may [(.t 32), (.v (.p (.str (bs [119, 105, 116, 104, 105, 110]))))])])
    (.seq (.ops [S 3000 (.may (.v (.fn (.func 24) [] [])) [(.t 31), (.t 33)]),
     S 3001 (.ext (.t 3000) 0)])
    (.cond (.t 3001)
     (.seq (.ops [S 3002 (.ext (.t 3000) 1),
      S 3000 (.mv (.v (.tup []))),
      S 3001 (.mv (.v (.tup [])))])
     (.exit 900001))
     (.seq (.ops [S 34 (.ext (.t 3000) 1),
      S 3000 (.mv (.v (.tup []))),
      S 3001 (.mv (.v (.tup [])))])
     (.skip)))))))
    (.seq (.seq (.ops [S 35 (.mv (.t 0))])
    (.seq (.ops [S 3000 (.may (.v (.fn (.func 28) [] [])) [(.t 35), (xI 3)]),
     S 3001 (.ext (.t 3000) 0)])
    (.cond (.t 3001)
     (.seq (.ops [S 3002 (.ext (.t 3000) 1),
      S 3000 (.mv (.v (.tup []))),
      S 3001 (.mv (.v (.tup [])))])
     (.exit 900001))
     (.seq (.ops [S 36 (.ext (.t 3000) 1),
      S 3000 (.mv (.v (.tup []))),
      S 3001 (.mv (.v (.tup [])))])
     (.seq (.ops [S 37 (.fget 3 1 false (.t 36))])
     (.seq (.ops [S 38 (.fld 2 (.t 2))])
     (.seq (.ops [E (.st 1 (.t 38) (.t 37))])
     (.skip))))))))
    (.seq (.ops [S 39 (.mv (.t 0)),
     S 40 (.call n_query_parser_may [(.t 39), (.v (.p (.str (bs [98, 121]))))]),
     S 41 (.fld 3 (.t 2)),
     E (.st 1 (.t 41) (.t 40))])
    (.seq (.seq (.ops [S 42 (.mv (.t 0))])
    (.seq (.ops [S 43 (.fld 3 (.t 2))])
    (.seq (.ops [S 44 (.ld false 1 (.t 43))])
    (.seq (.ops [S 45 (.un .not (.t 44))])
    (.seq (.ops [S 46 (.mv (.t 45))])
    (.seq (.ops [⟨(some 47), .mv (.t 0), (some (46, false)), []⟩])
    (.seq (.ops [⟨(some 48), .call n_query_parser_may [(.t 47), (.v (.p (.str (bs [107, 101, 121]))))], (some (46, false)), []⟩])
    (.seq (.ops [S 49 (.pick (.t 46) (xB true) (.t 48))])
    (.seq (.ops [S 3000 (.may (.v (.fn (.func 24) [] [])) [(.t 42), (.t 49)]),
     S 3001 (.ext (.t 3000) 0)])
    (.cond (.t 3001)
     (.seq (.ops [S 3002 (.ext (.t 3000) 1),
      S 3000 (.mv (.v (.tup []))),
      S 3001 (.mv (.v (.tup [])))])
     (.exit 900001))
     (.seq (.ops [S 50 (.ext (.t 3000) 1),
      S 3000 (.mv (.v (.tup []))),
      S 3001 (.mv (.v (.tup [])))])
     (.skip))))))))))))
    (.seq (.seq (.ops [S 51 (.mv (.t 0))])
    (.seq (.ops [S 52 (.mv (.t 0))])
    (.seq (.ops [S 53 (.nz (.t 52))])
    (.seq (.ops [S 54 (.fld 0 (.t 53))])
    (.seq (.ops [S 55 (.fld 1 (.t 54))])
    (.seq (.ops [S 56 (.ld false 1 (.t 55))])
    (.seq (.ops [S 57 (.mv (.t 0))])
    (.seq (.ops [S 58 (.nz (.t 57))])
    (.seq (.ops [S 59 (.fld 0 (.t 58))])
    (.seq (.ops [S 60 (.fld 0 (.t 59))])
    (.seq (.ops [S 61 (.ld false 1 (.t 60))])
    (.seq (.ops [S 62 (.len 0 (.t 61))])
    (.seq (.ops [S 63 (.bin .eql .none (.t 56) (.t 62))])
    (.seq (.ops [S 3000 (.may (.v (.fn (.func 24) [] [])) [(.t 51), (.t 63)]),
     S 3001 (.ext (.t 3000) 0)])
    (.cond (.t 3001)
     (.seq (.ops [S 3002 (.ext (.t 3000) 1),
      S 3000 (.mv (.v (.tup []))),
      S 3001 (.mv (.v (.tup [])))])
     (.exit 900001))
     (.seq (.ops [S 64 (.ext (.t 3000) 1),
      S 3000 (.mv (.v (.tup []))),
      S 3001 (.mv (.v (.tup [])))])
     (.skip)))))))))))))))))
    (.seq (.ops [S 65 (.ld true 4 (.t 2)),
     E (.st 4 (.t 2) (.t 65))])
    (.exit 900000))))))))))))
  (.seq (.ops [S 3002 (.ld true 4 (.t 2))])
  (.seq (.ops [S 3001 (.mv (xB false))])
  (.exit 900002)))))
  (.ops [S 3001 (.mv (xB true))]))),
 [.tmp 3001, .tmp 3002], false, false, false⟩
def d_query_keyword : DFn := ⟨1,
 .seq (.ops [S 2 (.mv (xB false))])
 (.seq (.ops [S 3 (.mv (.t 0)),
  S 4 (.bin .add .none (.v (.p (.str (bs [32])))) (.t 3)),
  S 5 (.bin .add .none (.t 4) (.v (.p (.str (bs [32]))))),
  S 6 (.call n_strings_Contains [(.v (.p (.str (bs [32, 115, 101, 113, 32, 119, 104, 101, 114, 101, 32, 97, 110, 100, 32, 119, 105, 116, 104, 105, 110, 32, 98, 121, 32, 107, 101, 121, 32])))), (.t 5)]),
  S 2 (.mv (.t 6))])
 (.ret)),
 [.tmp 2], false, true, false⟩
def d_query_printable : DFn := ⟨1,
 .seq (.ops [S 1 (.box true 4 (.t 0)),
  S 2 (.mv (xB false))])
 (.seq (.ops [S 8 (.fld 0 (.t 1)),
  S 9 (.ld false 1 (.t 8)),
  S 10 (.len 0 (.t 9)),
  S 11 (.bin .gtr .none (.t 10) (xI 0)),
  S 12 (.mv (.t 11)),
  ⟨(some 13), .fld 2 (.t 1), (some (12, true)), []⟩,
  ⟨(some 14), .ld false 1 (.t 13), (some (12, true)), []⟩,
  ⟨(some 15), .bin .geq .none (.t 14) (xI 0), (some (12, true)), []⟩,
  S 16 (.pick (.t 12) (.t 15) (xB false)),
  S 3 (.mv (.t 16))])
 (.seq (.skip)
 (.seq (.seq (.ops [S 17 (.fld 0 (.t 1)),
  S 18 (.ld false 1 (.t 17)),
  S 19 (.len 0 (.t 18)),
  S 20 (.mv (xI 0))])
 (.block 0 (.loop [1, 3, 18, 19, 20] (.seq (.ops [S 21 (.bin .lss .none (.t 20) (.t 19))])
  (.seq (.cond (.t 21)
   (.skip)
   (.exit 0))
  (.seq (.block 1 (.seq (.ops [S 22 (.ixa 4 (.t 18) (.t 20)),
     S 23 (.ld true 4 (.t 22)),
     S 5 (.new true [(eI 0), (.p (.str (bs []))), (eB false), (eB false)]),
     E (.st 4 (.t 5) (.t 23))])
   (.seq (.ops [S 24 (.mv (.t 3)),
    S 25 (.mv (.t 24)),
    ⟨(some 26), .fld 1 (.t 5), (some (25, true)), []⟩,
    ⟨(some 27), .ld false 1 (.t 26), (some (25, true)), []⟩,
    ⟨(some 28), .call n_query_Name [(.t 27)], (some (25, true)), []⟩,
    S 29 (.pick (.t 25) (.t 28) (xB false)),
    S 30 (.mv (.t 29)),
    ⟨(some 31), .fld 0 (.t 5), (some (30, true)), []⟩,
    ⟨(some 32), .ld false 1 (.t 31), (some (30, true)), []⟩,
    ⟨(some 33), .bin .geq .none (.t 32) (xI 0), (some (30, true)), []⟩,
    S 34 (.pick (.t 30) (.t 33) (xB false)),
    S 35 (.mv (.t 34)),
    ⟨(some 36), .fld 0 (.t 5), (some (35, true)), []⟩,
    ⟨(some 37), .ld false 1 (.t 36), (some (35, true)), []⟩,
    ⟨(some 38), .bin .lss .none (.t 37) (xI 8), (some (35, true)), []⟩,
    S 39 (.pick (.t 35) (.t 38) (xB false)),
    S 3 (.mv (.t 39))])
   (.seq (.ops [S 40 (.mv (.t 3)),
    S 41 (.un .not (.t 40))])
   (.cond (.t 41)
    (.exit 0)
    (.skip))))))
  (.ops [S 42 (.bin .add .none (.t 20) (xI 1)),
   S 20 (.mv (.t 42))])))))))
 (.seq (.seq (.ops [S 43 (.fld 1 (.t 1)),
  S 44 (.ld false 1 (.t 43)),
  S 45 (.len 0 (.t 44)),
  S 46 (.mv (xI 0))])
 (.block 2 (.loop [3, 44, 45, 46] (.seq (.ops [S 47 (.bin .lss .none (.t 46) (.t 45))])
  (.seq (.cond (.t 47)
   (.skip)
   (.exit 2))
  (.seq (.block 3 (.seq (.ops [S 48 (.ixa 3 (.t 44) (.t 46)),
     S 49 (.ld true 3 (.t 48)),
     S 7 (.new true [(eI 0), (.full []), (.full [])]),
     E (.st 3 (.t 7) (.t 49))])
   (.ops [S 50 (.mv (.t 3)),
    S 51 (.mv (.t 50)),
    ⟨(some 52), .fld 0 (.t 7), (some (51, true)), []⟩,
    ⟨(some 53), .ld false 1 (.t 52), (some (51, true)), []⟩,
    ⟨(some 54), .bin .geq .none (.t 53) (xI 1), (some (51, true)), []⟩,
    S 55 (.pick (.t 51) (.t 54) (xB false)),
    S 56 (.mv (.t 55)),
    ⟨(some 57), .fld 0 (.t 7), (some (56, true)), []⟩,
    ⟨(some 58), .ld false 1 (.t 57), (some (56, true)), []⟩,
    ⟨(some 59), .bin .leq .none (.t 58) (xI 6), (some (56, true)), []⟩,
    S 60 (.pick (.t 56) (.t 59) (xB false)),
    S 61 (.mv (.t 60)),
    ⟨(some 62), .fld 1 (.t 7), (some (61, true)), []⟩,
    ⟨(some 63), .ld false 1 (.t 62), (some (61, true)), []⟩,
    ⟨(some 64), .call n_query_Sound [(.t 63)], (some (61, true)), []⟩,
    S 65 (.pick (.t 61) (.t 64) (xB false)),
    S 66 (.mv (.t 65)),
    ⟨(some 67), .fld 2 (.t 7), (some (66, true)), []⟩,
    ⟨(some 68), .ld false 1 (.t 67), (some (66, true)), []⟩,
    ⟨(some 69), .call n_query_Sound [(.t 68)], (some (66, true)), []⟩,
    S 70 (.pick (.t 66) (.t 69) (xB false)),
    S 3 (.mv (.t 70))])))
  (.ops [S 71 (.bin .add .none (.t 46) (xI 1)),
   S 46 (.mv (.t 71))])))))))
 (.seq (.ops [S 72 (.mv (.t 3)),
  S 2 (.mv (.t 72))])
 (.ret)))))),
 [.tmp 2], false, true, false⟩
def d_strings_Builder_WriteString : DFn := bwD
def d_query_text : DFn := ⟨1,
 .seq (.ops [S 2 (.mv (.v (.p (.str (bs [])))))])
 (.seq (.ops [S 3 (.new false [(.full [])])])
 (.seq (.ops [S 10 (.mkf (.func n_query_text_1) [] [(.t 3)]),
  S 4 (.new false [.nilf]),
  E (.st 1 (.t 4) (.t 10))])
 (.seq (.ops [S 11 (.mkf (.func n_query_text_2) [] [(.t 4)]),
  S 5 (.mv (.t 11))])
 (.seq (.seq (.ops [S 12 (.mv (.t 0)),
  S 13 (.len 0 (.t 12)),
  S 14 (.mv (xI 0))])
 (.block 0 (.loop [3, 4, 5, 12, 13, 14] (.seq (.ops [S 15 (.bin .lss .none (.t 14) (.t 13))])
  (.seq (.cond (.t 15)
   (.skip)
   (.exit 0))
  (.seq (.block 1 (.seq (.ops [S 16 (.ixa 5 (.t 12) (.t 14)),
     S 17 (.ld true 5 (.t 16)),
     S 7 (.new true [(eI 0), (eI 0), (.p (.str (bs []))), (eI 0), (eI 0)]),
     E (.st 5 (.t 7) (.t 17))])
   (.seq (.ops [S 18 (.build [(.p (.str (bs []))), (eI 0)] [(1, 1, (xI 4))]),
    S 8 (.new true [(.p (.str (bs []))), (eI 0)]),
    E (.st 2 (.t 8) (.t 18))])
   (.seq (.seq (.ops [S 19 (.fld 0 (.t 7)),
    S 20 (.ld false 1 (.t 19))])
   (.block 2 (.seq (.ops [S 32 (.bin .eql .none (.t 20) (xI 6)),
      S 31 (.mv (.t 32))])
    (.cond (.t 31)
     (.ops [S 33 (.fld 1 (.t 7)),
      S 34 (.ld false 1 (.t 33)),
      S 35 (.call n_strconv_FormatInt [(.t 34), (xI 10)]),
      S 36 (.fld 0 (.t 8)),
      E (.st 1 (.t 36) (.t 35))])
     (.seq (.ops [S 38 (.bin .eql .none (.t 20) (xI 8)),
      S 37 (.mv (.t 38))])
     (.cond (.t 37)
      (.ops [S 39 (.fld 2 (.t 7)),
       S 40 (.ld false 1 (.t 39)),
       S 41 (.bin .add .none (.v (.p (.str (bs [35])))) (.t 40)),
       S 42 (.fld 0 (.t 8)),
       E (.st 1 (.t 42) (.t 41))])
      (.seq (.ops [S 44 (.bin .eql .none (.t 20) (xI 7)),
       S 43 (.mv (.t 44))])
      (.cond (.t 43)
       (.ops [S 45 (.fld 2 (.t 7)),
        S 46 (.ld false 1 (.t 45)),
        S 47 (.bin .add .none (.t 46) (.v (.p (.str (bs [46]))))),
        S 48 (.fld 3 (.t 7)),
        S 49 (.ld false 1 (.t 48)),
        S 50 (.fld 3 (.t 7)),
        S 51 (.ld false 1 (.t 50)),
        S 52 (.bin .add .none (.t 51) (xI 1)),
        S 53 (.sls (.v (.p (.str (bs [120, 121, 122, 119])))) (some (.t 49)) (some (.t 52))),
        S 54 (.bin .add .none (.t 47) (.t 53)),
        S 55 (.fld 0 (.t 8)),
        E (.st 1 (.t 55) (.t 54))])
       (.seq (.ops [S 57 (.bin .eql .none (.t 20) (xI 9)),
        S 56 (.mv (.t 57))])
       (.cond (.t 56)
        (.seq (.ops [S 58 (.ld false 1 (.t 4)),
         S 59 (.callv (.t 58) []),
         S 9 (.new true [(.p (.str (bs []))), (eI 0)]),
         E (.st 2 (.t 9) (.t 59))])
        (.ops [S 60 (.ld true 2 (.t 9)),
         S 61 (.call n_query_part_in [(.t 60), (xI 3)]),
         S 62 (.bin .add .none (.v (.p (.str (bs [45])))) (.t 61)),
         S 63 (.build [(.p (.str (bs []))), (eI 0)] [(0, 1, (.t 62)), (1, 1, (xI 3))]),
         E (.st 2 (.t 8) (.t 63))]))
        (.seq (.seq (.ops [S 65 (.bin .eql .none (.t 20) (xI 1)),
         S 64 (.mv (.t 65))])
        (.cond (.t 64)
         (.skip)
         (.ops [S 66 (.bin .eql .none (.t 20) (xI 2)),
          S 64 (.mv (.t 66))])))
        (.cond (.t 64)
         (.ops [S 67 (.mv (.t 5)),
          S 68 (.fld 0 (.t 7)),
          S 69 (.ld false 1 (.t 68)),
          S 70 (.bin .sub .none (.t 69) (xI 1)),
          S 71 (.fld 0 (.t 7)),
          S 72 (.ld false 1 (.t 71)),
          S 73 (.bin .sub .none (.t 72) (xI 1)),
          S 74 (.bin .add .none (.t 73) (xI 1)),
          S 75 (.sls (.v (.p (.str (bs [43, 45])))) (some (.t 70)) (some (.t 74))),
          S 76 (.callv (.t 67) [(.t 75), (xI 1)]),
          E (.st 2 (.t 8) (.t 76))])
         (.ops [S 21 (.mv (.t 5)),
          S 22 (.fld 0 (.t 7)),
          S 23 (.ld false 1 (.t 22)),
          S 24 (.bin .sub .none (.t 23) (xI 3)),
          S 25 (.fld 0 (.t 7)),
          S 26 (.ld false 1 (.t 25)),
          S 27 (.bin .sub .none (.t 26) (xI 3)),
          S 28 (.bin .add .none (.t 27) (xI 1)),
          S 29 (.sls (.v (.p (.str (bs [42, 47, 37])))) (some (.t 24)) (some (.t 28))),
          S 30 (.callv (.t 21) [(.t 29), (xI 2)]),
          E (.st 2 (.t 8) (.t 30))])))))))))))))
   (.ops [S 77 (.ld false 1 (.t 3)),
    S 78 (.ld true 2 (.t 8)),
    S 79 (.lit 2 true [[(.p (.str (bs []))), (eI 0)]] [(0, (.t 78))]),
    S 80 (.app 2 true 24 (.t 77) (.t 79)),
    E (.st 1 (.t 3) (.t 80))])))))
  (.ops [S 81 (.bin .add .none (.t 14) (xI 1)),
   S 14 (.mv (.t 81))])))))))
 (.seq (.ops [S 82 (.ld false 1 (.t 3)),
  S 83 (.ixa 2 (.t 82) (xI 0)),
  S 84 (.fld 0 (.t 83)),
  S 85 (.ld false 1 (.t 84)),
  S 2 (.mv (.t 85))])
 (.ret)))))),
 [.tmp 2], false, true, false⟩
def d_strconv_Itoa : DFn := ⟨1,
 .seq (.ops [S 2 (.mv (.v (.p (.str (bs [])))))])
 (.seq (.ops [S 3 (.mv (.t 0)),
  S 4 (.call n_internal_strconv_Itoa [(.t 3)]),
  S 2 (.mv (.t 4))])
 (.ret)),
 [.tmp 2], false, true, false⟩
def d_strings_Builder_String : DFn := bsD
def d_lex_skip : DFn := ⟨2,
 .seq (.ops [S 4 (.mv (xI 0))])
 (.seq (.block 0 (.loop [0, 1] (.seq (.seq (.ops [S 5 (.mv (.t 1)),
  S 6 (.mv (.t 0)),
  S 7 (.len 1 (.t 6)),
  S 8 (.bin .lss .none (.t 5) (.t 7)),
  S 9 (.mv (.t 8)),
  ⟨(some 10), .mv (.t 0), (some (9, true)), []⟩,
  ⟨(some 11), .mv (.t 1), (some (9, true)), []⟩,
  ⟨(some 12), .ixs (.t 10) (.t 11), (some (9, true)), []⟩,
  ⟨(some 13), .call n_strings_IndexByte [(.v (.p (.str (bs [32, 9, 10])))), (.t 12)], (some (9, true)), []⟩,
  ⟨(some 14), .bin .geq .none (.t 13) (xI 0), (some (9, true)), []⟩,
  S 15 (.pick (.t 9) (.t 14) (xB false))])
  (.cond (.t 15)
   (.skip)
   (.exit 0)))
  (.block 1 (.ops [S 16 (.mv (.t 1)),
     S 17 (.bin .add .none (.t 16) (xI 1)),
     S 1 (.mv (.t 17))])))))
 (.seq (.ops [S 18 (.mv (.t 1)),
  S 4 (.mv (.t 18))])
 (.ret))),
 [.tmp 4], false, true, false⟩
def d_lex_Each : DFn := ⟨1,
 .seq (.ops [S 1 (.box false 1 (.t 0)),
  S 2 (.mv (.v .nilf))])
 (.seq (.ops [S 3 (.mkf (.func n_lex_Each_1) [] [(.t 1)]),
  S 2 (.mv (.t 3))])
 (.ret)),
 [.tmp 2], false, false, false⟩
def d_query_parser_must : DFn := ⟨3,
 .seq (.ops [⟨(some 2), .mv (.v (.tup [])), none, [(2, .mv (.v (.p (.agg [(.bool true)]))), none)]⟩])
 (.block 900002 (.seq (.block 900001 (.seq (.block 900000 (.seq (.ops [S 4 (.mv (.t 1)),
      S 5 (.un .not (.t 4))])
    (.cond (.t 5)
     (.seq (.ops [S 6 (.mv (.t 0))])
     (.seq (.ops [S 7 (.call n_query_parser_at [(.t 6)])])
     (.seq (.ops [S 8 (.build [(eI 0), (eI 0)] [(0, 1, (.t 7)), (1, 1, (xI 11))])])
     (.seq (.ops [S 9 (.mki 39 (.t 8))])
     (.seq (.ops [S 3000 (.asr 39 .nili (.t 9)),
      S 3001 (.ext (.t 3000) 1)])
     (.cond (.t 3001)
      (.seq (.ops [S 3002 (.mv (.t 9)),
       S 3000 (.mv (.v (.tup []))),
       S 3001 (.mv (.v (.tup [])))])
      (.exit 900001))
      (.ops [E (.nz (.v .junk))])))))))
     (.skip))))
  (.seq (.ops [S 3002 (.mv (.v (.tup [])))])
  (.seq (.ops [S 3001 (.mv (xB false))])
  (.exit 900002)))))
  (.ops [S 3001 (.mv (xB true))]))),
 [.tmp 3001, .tmp 3002], false, false, false⟩
def d_query_parser_may : DFn := ⟨2,
 .seq (.ops [S 4 (.mv (xB false))])
 (.seq (.seq (.ops [S 5 (.mv (.t 0)),
  S 6 (.mv (.t 1)),
  S 7 (.call n_query_parser_is [(.t 5), (.t 6)]),
  S 8 (.un .not (.t 7))])
 (.cond (.t 8)
  (.seq (.ops [S 4 (.mv (xB false))])
  (.ret))
  (.skip)))
 (.seq (.ops [S 9 (.mv (.t 0)),
  S 10 (.nz (.t 9)),
  S 11 (.fld 0 (.t 10)),
  S 12 (.fld 1 (.t 11)),
  S 13 (.ld false 1 (.t 12)),
  S 14 (.bin .add .none (.t 13) (xI 1)),
  S 15 (.nz (.t 9)),
  S 16 (.fld 0 (.t 15)),
  S 17 (.fld 1 (.t 16)),
  E (.st 1 (.t 17) (.t 14))])
 (.seq (.ops [S 4 (.mv (xB true))])
 (.ret)))),
 [.tmp 4], false, false, false⟩
def d_query_parser_elem : DFn := ⟨2,
 .seq (.ops [⟨(some 1), .mv (.v (.tup [])), none, [(1, .mv (.v (.p (.agg [(.bool true)]))), none)]⟩])
 (.block 900002 (.seq (.block 900001 (.seq (.block 900000 (.seq (.ops [S 2 (.new true [(eI 0), (.p (.str (bs []))), (eB false), (eB false)])])
    (.seq (.ops [S 6 (.mv (.t 0)),
     S 7 (.call n_query_parser_may [(.t 6), (.v (.p (.str (bs [33]))))]),
     S 3 (.mv (.t 7))])
    (.seq (.seq (.ops [S 8 (.mv (.t 0))])
    (.seq (.ops [S 3000 (.may (.v (.fn (.func 28) [] [])) [(.t 8), (xI 2)]),
     S 3001 (.ext (.t 3000) 0)])
    (.cond (.t 3001)
     (.seq (.ops [S 3002 (.ext (.t 3000) 1),
      S 3000 (.mv (.v (.tup []))),
      S 3001 (.mv (.v (.tup [])))])
     (.exit 900001))
     (.seq (.ops [S 9 (.ext (.t 3000) 1),
      S 3000 (.mv (.v (.tup []))),
      S 3001 (.mv (.v (.tup [])))])
     (.seq (.ops [S 10 (.fget 3 1 false (.t 9))])
     (.seq (.ops [S 4 (.mv (.t 10))])
     (.skip)))))))
    (.seq (.ops [S 11 (.mv (.t 0)),
     S 12 (.call n_query_parser_may [(.t 11), (.v (.p (.str (bs [43]))))]),
     S 5 (.mv (.t 12))])
    (.seq (.seq (.ops [S 13 (.mv (.t 4))])
    (.seq (.ops [S 14 (.mv (.t 0))])
    (.seq (.ops [S 3000 (.may (.v (.fn (.func 28) [] [])) [(.t 14), (xI 1)]),
     S 3001 (.ext (.t 3000) 0)])
    (.cond (.t 3001)
     (.seq (.ops [S 3002 (.ext (.t 3000) 1),
      S 3000 (.mv (.v (.tup []))),
      S 3001 (.mv (.v (.tup [])))])
     (.exit 900001))
     (.seq (.ops [S 15 (.ext (.t 3000) 1),
      S 3000 (.mv (.v (.tup []))),
      S 3001 (.mv (.v (.tup [])))])
     (.seq (.ops [S 16 (.fget 2 1 false (.t 15))])
     (.seq (.ops [S 17 (.mv (.t 5))])
     (.seq (.ops [S 18 (.mv (.t 3))])
     (.seq (.ops [S 19 (.build [(eI 0), (.p (.str (bs []))), (eB false), (eB false)] [(0, 1, (.t 13)), (1, 1, (.t 16)), (2, 1, (.t 17)), (3, 1, (.t 18))])])
     (.seq (.ops [E (.st 4 (.t 2) (.t 19))])
     (.skip)))))))))))
    (.exit 900000)))))))
  (.seq (.ops [S 3002 (.ld true 4 (.t 2))])
  (.seq (.ops [S 3001 (.mv (xB false))])
  (.exit 900002)))))
  (.ops [S 3001 (.mv (xB true))]))),
 [.tmp 3001, .tmp 3002], false, false, false⟩
def d_query_parser_cond : DFn := ⟨2,
 .seq (.ops [⟨(some 1), .mv (.v (.tup [])), none, [(1, .mv (.v (.p (.agg [(.bool true)]))), none)]⟩])
 (.block 900002 (.seq (.block 900001 (.seq (.block 900000 (.seq (.ops [S 2 (.new true [(eI 0), (.full []), (.full [])])])
    (.seq (.seq (.ops [S 4 (.mv (.t 0))])
    (.seq (.ops [S 3000 (.may (.v (.fn (.func 43) [] [])) [(.t 4)]),
     S 3001 (.ext (.t 3000) 0)])
    (.cond (.t 3001)
     (.seq (.ops [S 3002 (.ext (.t 3000) 1),
      S 3000 (.mv (.v (.tup []))),
      S 3001 (.mv (.v (.tup [])))])
     (.exit 900001))
     (.seq (.ops [S 5 (.ext (.t 3000) 1),
      S 3000 (.mv (.v (.tup []))),
      S 3001 (.mv (.v (.tup [])))])
     (.seq (.ops [S 6 (.build [(eI 0), (.full []), (.full [])] [(1, 1, (.t 5))])])
     (.seq (.ops [S 3 (.new true [(eI 0), (.full []), (.full [])])])
     (.seq (.ops [E (.st 3 (.t 3) (.t 6))])
     (.skip))))))))
    (.seq (.seq (.ops [S 7 (.mv (.t 0))])
    (.seq (.ops [S 8 (.sla 6 1 (.v (.cp [(.str (bs [61])), (.str (bs [33, 61])), (.str (bs [60])), (.str (bs [60, 61])), (.str (bs [62])), (.str (bs [62, 61]))] 0)) none none)])
    (.seq (.ops [S 3000 (.may (.v (.fn (.func 44) [] [])) [(.t 7), (.t 8)]),
     S 3001 (.ext (.t 3000) 0)])
    (.cond (.t 3001)
     (.seq (.ops [S 3002 (.ext (.t 3000) 1),
      S 3000 (.mv (.v (.tup []))),
      S 3001 (.mv (.v (.tup [])))])
     (.exit 900001))
     (.seq (.ops [S 9 (.ext (.t 3000) 1),
      S 3000 (.mv (.v (.tup []))),
      S 3001 (.mv (.v (.tup [])))])
     (.seq (.ops [S 10 (.bin .add .none (.t 9) (xI 1))])
     (.seq (.ops [S 11 (.fld 0 (.t 3))])
     (.seq (.ops [E (.st 1 (.t 11) (.t 10))])
     (.skip)))))))))
    (.seq (.seq (.ops [S 12 (.mv (.t 0))])
    (.seq (.ops [S 13 (.fld 0 (.t 3))])
    (.seq (.ops [S 14 (.ld false 1 (.t 13))])
    (.seq (.ops [S 15 (.bin .gtr .none (.t 14) (xI 0))])
    (.seq (.ops [S 3000 (.may (.v (.fn (.func 24) [] [])) [(.t 12), (.t 15)]),
     S 3001 (.ext (.t 3000) 0)])
    (.cond (.t 3001)
     (.seq (.ops [S 3002 (.ext (.t 3000) 1),
      S 3000 (.mv (.v (.tup []))),
      S 3001 (.mv (.v (.tup [])))])
     (.exit 900001))
     (.seq (.ops [S 16 (.ext (.t 3000) 1),
      S 3000 (.mv (.v (.tup []))),
      S 3001 (.mv (.v (.tup [])))])
     (.skip))))))))
    (.seq (.seq (.ops [S 17 (.mv (.t 0))])
    (.seq (.ops [S 3000 (.may (.v (.fn (.func 43) [] [])) [(.t 17)]),
     S 3001 (.ext (.t 3000) 0)])
    (.cond (.t 3001)
     (.seq (.ops [S 3002 (.ext (.t 3000) 1),
      S 3000 (.mv (.v (.tup []))),
      S 3001 (.mv (.v (.tup [])))])
     (.exit 900001))
     (.seq (.ops [S 18 (.ext (.t 3000) 1),
      S 3000 (.mv (.v (.tup []))),
      S 3001 (.mv (.v (.tup [])))])
     (.seq (.ops [S 19 (.fld 2 (.t 3))])
     (.seq (.ops [E (.st 1 (.t 19) (.t 18))])
     (.skip)))))))
    (.seq (.ops [S 20 (.ld true 3 (.t 3)),
     E (.st 3 (.t 2) (.t 20))])
    (.exit 900000))))))))
  (.seq (.ops [S 3002 (.ld true 3 (.t 2))])
  (.seq (.ops [S 3001 (.mv (xB false))])
  (.exit 900002)))))
  (.ops [S 3001 (.mv (xB true))]))),
 [.tmp 3001, .tmp 3002], false, false, false⟩
def d_query_parser_kind : DFn := ⟨3,
 .seq (.ops [⟨(some 2), .mv (.v (.tup [])), none, [(2, .mv (.v (.p (.agg [(.bool true)]))), none)]⟩])
 (.block 900002 (.seq (.block 900001 (.seq (.block 900000 (.seq (.ops [S 4 (.new true [(eI 0), (eI 0), (.p (.str (bs []))), (eI 0)])])
    (.seq (.ops [S 8 (.mv (.t 0)),
     S 9 (.nz (.t 8)),
     S 10 (.fld 0 (.t 9)),
     S 11 (.call n_query_row_now [(.t 10)]),
     S 7 (.mv (.t 11)),
     S 12 (.ext (.t 7) 0),
     S 13 (.ext (.t 7) 1),
     S 5 (.new true [(eI 0), (eI 0), (.p (.str (bs []))), (eI 0)]),
     E (.st 4 (.t 5) (.t 12)),
     S 6 (.mv (.t 13))])
    (.seq (.seq (.ops [S 14 (.mv (.t 0))])
    (.seq (.ops [S 15 (.mv (.t 6))])
    (.seq (.ops [S 16 (.mv (.t 15))])
    (.seq (.ops [⟨(some 17), .fld 0 (.t 5), (some (16, true)), []⟩])
    (.seq (.ops [⟨(some 18), .ld false 1 (.t 17), (some (16, true)), []⟩])
    (.seq (.ops [⟨(some 19), .mv (.t 1), (some (16, true)), []⟩])
    (.seq (.ops [⟨(some 20), .bin .eql .none (.t 18) (.t 19), (some (16, true)), []⟩])
    (.seq (.ops [S 21 (.pick (.t 16) (.t 20) (xB false))])
    (.seq (.ops [S 22 (.mv (.t 21))])
    (.seq (.ops [⟨(some 23), .mv (.t 1), (some (22, true)), []⟩])
    (.seq (.ops [⟨(some 24), .bin .neq .none (.t 23) (xI 1), (some (22, true)), []⟩])
    (.seq (.ops [⟨(some 25), .mv (.t 24), (some (22, true)), []⟩])
    (.seq (.ops [⟨(some 26), .fld 2 (.t 5), (some (25, false)), []⟩])
    (.seq (.ops [⟨(some 27), .ld false 1 (.t 26), (some (25, false)), []⟩])
    (.seq (.ops [⟨(some 28), .call n_query_keyword [(.t 27)], (some (25, false)), []⟩])
    (.seq (.ops [⟨(some 29), .un .not (.t 28), (some (25, false)), []⟩])
    (.seq (.ops [⟨(some 30), .pick (.t 25) (xB true) (.t 29), (some (22, true)), []⟩])
    (.seq (.ops [S 31 (.pick (.t 22) (.t 30) (xB false))])
    (.seq (.ops [S 3000 (.may (.v (.fn (.func 24) [] [])) [(.t 14), (.t 31)]),
     S 3001 (.ext (.t 3000) 0)])
    (.cond (.t 3001)
     (.seq (.ops [S 3002 (.ext (.t 3000) 1),
      S 3000 (.mv (.v (.tup []))),
      S 3001 (.mv (.v (.tup [])))])
     (.exit 900001))
     (.seq (.ops [S 32 (.ext (.t 3000) 1),
      S 3000 (.mv (.v (.tup []))),
      S 3001 (.mv (.v (.tup [])))])
     (.skip))))))))))))))))))))))
    (.seq (.ops [S 33 (.mv (.t 0)),
     S 34 (.nz (.t 33)),
     S 35 (.fld 0 (.t 34)),
     S 36 (.fld 1 (.t 35)),
     S 37 (.ld false 1 (.t 36)),
     S 38 (.bin .add .none (.t 37) (xI 1)),
     S 39 (.nz (.t 33)),
     S 40 (.fld 0 (.t 39)),
     S 41 (.fld 1 (.t 40)),
     E (.st 1 (.t 41) (.t 38))])
    (.seq (.ops [S 42 (.ld true 4 (.t 5)),
     E (.st 4 (.t 4) (.t 42))])
    (.exit 900000)))))))
  (.seq (.ops [S 3002 (.ld true 4 (.t 4))])
  (.seq (.ops [S 3001 (.mv (xB false))])
  (.exit 900002)))))
  (.ops [S 3001 (.mv (xB true))]))),
 [.tmp 3001, .tmp 3002], false, false, false⟩
def d_strings_Contains : DFn := ⟨2,
 .seq (.ops [S 4 (.mv (xB false))])
 (.seq (.ops [S 5 (.mv (.t 0)),
  S 6 (.mv (.t 1)),
  S 7 (.call n_strings_Index [(.t 5), (.t 6)]),
  S 8 (.bin .geq .none (.t 7) (xI 0)),
  S 4 (.mv (.t 8))])
 (.ret)),
 [.tmp 4], false, true, false⟩
def d_query_Sound : DFn := ⟨1,
 .seq (.ops [S 2 (.mv (xB false))])
 (.seq (.ops [S 3 (.mv (xI 0))])
 (.seq (.seq (.ops [S 8 (.mv (.t 0)),
  S 9 (.len 0 (.t 8)),
  S 10 (.mv (xI 0))])
 (.block 0 (.loop [3, 8, 9, 10] (.seq (.ops [S 11 (.bin .lss .none (.t 10) (.t 9))])
  (.seq (.cond (.t 11)
   (.skip)
   (.exit 0))
  (.seq (.block 1 (.seq (.ops [S 12 (.ixa 5 (.t 8) (.t 10)),
     S 13 (.ld true 5 (.t 12)),
     S 5 (.new true [(eI 0), (eI 0), (.p (.str (bs []))), (eI 0), (eI 0)]),
     E (.st 5 (.t 5) (.t 13))])
   (.seq (.ops [S 15 (.ld true 5 (.t 5)),
    S 16 (.call n_query_takes [(.t 15)]),
    S 14 (.mv (.t 16)),
    S 17 (.ext (.t 14) 0),
    S 18 (.ext (.t 14) 1),
    S 6 (.mv (.t 17)),
    S 7 (.mv (.t 18))])
   (.seq (.seq (.ops [S 19 (.mv (.t 7)),
    S 20 (.un .not (.t 19)),
    S 21 (.mv (.t 20)),
    ⟨(some 22), .mv (.t 3), (some (21, false)), []⟩,
    ⟨(some 23), .mv (.t 6), (some (21, false)), []⟩,
    ⟨(some 24), .bin .lss .none (.t 22) (.t 23), (some (21, false)), []⟩,
    S 25 (.pick (.t 21) (xB true) (.t 24))])
   (.cond (.t 25)
    (.seq (.ops [S 2 (.mv (xB false))])
    (.ret))
    (.skip)))
   (.ops [S 26 (.mv (.t 3)),
    S 27 (.mv (.t 6)),
    S 28 (.bin .sub .none (xI 1) (.t 27)),
    S 29 (.bin .add .none (.t 26) (.t 28)),
    S 3 (.mv (.t 29))])))))
  (.ops [S 30 (.bin .add .none (.t 10) (xI 1)),
   S 10 (.mv (.t 30))])))))))
 (.seq (.ops [S 31 (.mv (.t 3)),
  S 32 (.bin .eql .none (.t 31) (xI 1)),
  S 2 (.mv (.t 32))])
 (.ret)))),
 [.tmp 2], false, true, false⟩
def d_query_text_1 : DFn := ⟨1,
 .seq (.ops [S 1 (.new true [(.p (.str (bs []))), (eI 0)])])
 (.seq (.ops [S 3 (.ld false 1 (.t 0)),
  S 4 (.ld false 1 (.t 0)),
  S 5 (.len 0 (.t 4)),
  S 6 (.bin .sub .none (.t 5) (xI 1)),
  S 7 (.ixa 2 (.t 3) (.t 6)),
  S 8 (.ld true 2 (.t 7)),
  S 2 (.new true [(.p (.str (bs []))), (eI 0)]),
  E (.st 2 (.t 2) (.t 8))])
 (.seq (.ops [S 9 (.ld false 1 (.t 0)),
  S 10 (.ld false 1 (.t 0)),
  S 11 (.len 0 (.t 10)),
  S 12 (.bin .sub .none (.t 11) (xI 1)),
  S 13 (.slc 2 (.t 9) none (some (.t 12)) none),
  E (.st 1 (.t 0) (.t 13))])
 (.seq (.ops [S 14 (.ld true 2 (.t 2)),
  E (.st 2 (.t 1) (.t 14))])
 (.ret)))),
 [.cell 1 true 2], false, false, false⟩
def d_query_text_2 : DFn := ⟨3,
 .seq (.ops [S 5 (.new true [(.p (.str (bs []))), (eI 0)])])
 (.seq (.ops [S 8 (.ld false 1 (.t 2)),
  S 10 (.ld false 1 (.t 2)),
  S 6 (.new true [(.p (.str (bs []))), (eI 0)]),
  S 7 (.new true [(.p (.str (bs []))), (eI 0)]),
  ⟨(some 9), .callv (.t 8) [], none, [(10, .ld false 1 (.t 2), none)]⟩,
  S 11 (.callv (.t 10) []),
  E (.st 2 (.t 6) (.t 9)),
  E (.st 2 (.t 7) (.t 11))])
 (.seq (.ops [S 12 (.ld true 2 (.t 7)),
  S 13 (.mv (.t 1)),
  S 16 (.mv (.t 0)),
  S 19 (.ld true 2 (.t 6)),
  S 20 (.mv (.t 1)),
  S 21 (.bin .add .none (.t 20) (xI 1)),
  S 24 (.mv (.t 1)),
  ⟨(some 14), .call n_query_part_in [(.t 12), (.t 13)], none, [(19, .ld true 2 (.t 6), none)]⟩,
  S 15 (.bin .add .none (.t 14) (.v (.p (.str (bs [32]))))),
  S 17 (.bin .add .none (.t 15) (.t 16)),
  S 18 (.bin .add .none (.t 17) (.v (.p (.str (bs [32]))))),
  S 22 (.call n_query_part_in [(.t 19), (.t 21)]),
  S 23 (.bin .add .none (.t 18) (.t 22)),
  S 25 (.build [(.p (.str (bs []))), (eI 0)] [(0, 1, (.t 23)), (1, 1, (.t 24))]),
  E (.st 2 (.t 5) (.t 25))])
 (.ret))),
 [.cell 5 true 2], false, false, false⟩
def d_query_part_in : DFn := ⟨2,
 .seq (.ops [S 2 (.box true 2 (.t 0)),
  S 4 (.mv (.v (.p (.str (bs [])))))])
 (.seq (.seq (.ops [S 5 (.fld 1 (.t 2)),
  S 6 (.ld false 1 (.t 5)),
  S 7 (.mv (.t 1)),
  S 8 (.bin .lss .none (.t 6) (.t 7))])
 (.cond (.t 8)
  (.seq (.ops [S 9 (.fld 0 (.t 2)),
   S 10 (.ld false 1 (.t 9)),
   S 11 (.bin .add .none (.v (.p (.str (bs [40])))) (.t 10)),
   S 12 (.bin .add .none (.t 11) (.v (.p (.str (bs [41]))))),
   S 4 (.mv (.t 12))])
  (.ret))
  (.skip)))
 (.seq (.ops [S 13 (.fld 0 (.t 2)),
  S 14 (.ld false 1 (.t 13)),
  S 4 (.mv (.t 14))])
 (.ret))),
 [.tmp 4], false, true, false⟩
def d_strconv_FormatInt : DFn := ⟨2,
 .seq (.ops [S 4 (.mv (.v (.p (.str (bs [])))))])
 (.seq (.ops [S 5 (.mv (.t 0)),
  S 6 (.mv (.t 1)),
  S 7 (.call n_internal_strconv_FormatInt [(.t 5), (.t 6)]),
  S 4 (.mv (.t 7))])
 (.ret)),
 [.tmp 4], false, false, false⟩
def d_internal_strconv_Itoa : DFn := ⟨1,
 .seq (.ops [S 2 (.mv (.v (.p (.str (bs [])))))])
 (.seq (.ops [S 3 (.mv (.t 0)),
  S 4 (.call n_internal_strconv_FormatInt [(.t 3), (xI 10)]),
  S 2 (.mv (.t 4))])
 (.ret)),
 [.tmp 2], false, false, false⟩
def d_strings_IndexByte : DFn := ⟨2,
 .seq (.ops [S 4 (.mv (xI 0))])
 (.seq (.ops [S 5 (.mv (.t 0)),
  S 6 (.mv (.t 1)),
  S 7 (.call n_internal_stringslite_IndexByte [(.t 5), (.t 6)]),
  S 4 (.mv (.t 7))])
 (.ret)),
 [.tmp 4], false, true, false⟩
def d_lex_Each_1 : DFn := ⟨2,
 .seq (.ops [S 5 (.ld false 1 (.t 1)),
  S 6 (.call n_lex_skip [(.t 5), (xI 0)]),
  S 3 (.mv (.t 6))])
 (.seq (.skip)
 (.block 0 (.loop [0, 1, 3] (.seq (.seq (.ops [S 7 (.mv (.t 3)),
  S 8 (.ld false 1 (.t 1)),
  S 9 (.len 1 (.t 8)),
  S 10 (.bin .lss .none (.t 7) (.t 9))])
  (.cond (.t 10)
   (.skip)
   (.exit 0)))
  (.block 1 (.seq (.ops [S 11 (.ld false 1 (.t 1)),
     S 12 (.mv (.t 3)),
     S 13 (.sls (.t 11) (some (.t 12)) none),
     S 14 (.call n_lex_next [(.t 13)]),
     S 4 (.new true [(eI 0), (eI 0), (.p (.str (bs []))), (eI 0)]),
     E (.st 4 (.t 4) (.t 14))])
   (.seq (.ops [S 15 (.mv (.t 3)),
    S 16 (.fld 1 (.t 4)),
    E (.st 1 (.t 16) (.t 15))])
   (.seq (.seq (.ops [S 17 (.fld 0 (.t 4)),
    S 18 (.ld false 1 (.t 17)),
    S 19 (.bin .eql .none (.t 18) (xI 0)),
    S 20 (.mv (.t 19)),
    ⟨(some 21), .mv (.t 0), (some (20, false)), []⟩,
    ⟨(some 22), .ld true 4 (.t 4), (some (20, false)), []⟩,
    ⟨(some 23), .callv (.t 21) [(.t 22)], (some (20, false)), []⟩,
    ⟨(some 24), .un .not (.t 23), (some (20, false)), []⟩,
    S 25 (.pick (.t 20) (xB true) (.t 24))])
   (.cond (.t 25)
    (.exit 0)
    (.skip)))
   (.ops [S 26 (.ld false 1 (.t 1)),
    S 27 (.mv (.t 3)),
    S 28 (.fld 2 (.t 4)),
    S 29 (.ld false 1 (.t 28)),
    S 30 (.len 1 (.t 29)),
    S 31 (.bin .add .none (.t 27) (.t 30)),
    S 32 (.call n_lex_skip [(.t 26), (.t 31)]),
    S 3 (.mv (.t 32))]))))))))),
 [], false, false, false⟩
def d_lex_next : DFn := ⟨1,
 .seq (.ops [S 2 (.new true [(eI 0), (eI 0), (.p (.str (bs []))), (eI 0)])])
 (.seq (.ops [S 3 (.mv (.v (.fn (.func 53) [] [])))])
 (.seq (.seq (.ops [S 9 (.mv (.t 0)),
  S 10 (.ixs (.t 9) (xI 0)),
  S 4 (.mv (.t 10))])
 (.block 0 (.seq (.ops [S 18 (.mv (.t 4)),
    S 19 (.call n_lex_small [(.t 18)]),
    S 17 (.mv (.t 19))])
  (.cond (.t 17)
   (.seq (.ops [S 20 (.mv (.t 0)),
    S 21 (.mv (.t 0)),
    S 22 (.mv (.t 3)),
    S 23 (.call n_lex_run [(.t 21), (.t 22)]),
    S 24 (.sls (.t 20) none (some (.t 23))),
    S 25 (.build [(eI 0), (eI 0), (.p (.str (bs []))), (eI 0)] [(0, 1, (xI 1)), (2, 1, (.t 24))]),
    E (.st 4 (.t 2) (.t 25))])
   (.ret))
   (.seq (.ops [S 27 (.mv (.t 4)),
    S 28 (.call n_lex_digit [(.t 27)]),
    S 26 (.mv (.t 28))])
   (.cond (.t 26)
    (.seq (.ops [S 29 (.mv (.t 0)),
     S 30 (.call n_lex_run [(.t 29), (.v (.fn (.func 55) [] []))]),
     S 5 (.mv (.t 30))])
    (.seq (.ops [S 32 (.mv (.t 0)),
     S 33 (.mv (.t 5)),
     S 34 (.sls (.t 32) none (some (.t 33))),
     S 35 (.call n_lex_number [(.t 34)]),
     S 31 (.mv (.t 35)),
     S 36 (.ext (.t 31) 0),
     S 37 (.ext (.t 31) 1),
     S 6 (.mv (.t 36)),
     S 7 (.mv (.t 37))])
    (.seq (.ops [S 38 (.mv (.t 7)),
     S 39 (.mv (.t 38)),
     ⟨(some 40), .mv (.t 0), (some (39, true)), []⟩,
     ⟨(some 41), .mv (.t 5), (some (39, true)), []⟩,
     ⟨(some 42), .sls (.t 40) (some (.t 41)) none, (some (39, true)), []⟩,
     ⟨(some 43), .call n_lex_ends [(.t 42), (.v (.fn (.func 59) [] []))], (some (39, true)), []⟩,
     S 44 (.pick (.t 39) (.t 43) (xB false))])
    (.cond (.t 44)
     (.seq (.ops [S 45 (.mv (.t 0)),
      S 46 (.mv (.t 5)),
      S 47 (.sls (.t 45) none (some (.t 46))),
      S 48 (.mv (.t 6)),
      S 49 (.build [(eI 0), (eI 0), (.p (.str (bs []))), (eI 0)] [(0, 1, (xI 3)), (2, 1, (.t 47)), (3, 1, (.t 48))]),
      E (.st 4 (.t 2) (.t 49))])
     (.ret))
     (.skip)))))
    (.seq (.ops [S 51 (.mv (.t 4)),
     S 52 (.bin .leq .none (.v (.p (.int .u8 65))) (.t 51)),
     S 53 (.mv (.t 52)),
     ⟨(some 54), .mv (.t 4), (some (53, true)), []⟩,
     ⟨(some 55), .bin .leq .none (.t 54) (.v (.p (.int .u8 72))), (some (53, true)), []⟩,
     S 56 (.pick (.t 53) (.t 55) (xB false)),
     S 50 (.mv (.t 56))])
    (.cond (.t 50)
     (.seq (.ops [S 57 (.mv (.t 0)),
      S 58 (.sls (.t 57) (some (xI 1)) none),
      S 59 (.call n_lex_ends [(.t 58), (.v (.fn (.func 59) [] []))]),
      S 60 (.mv (.t 59)),
      ⟨(some 61), .mv (.t 0), (some (60, true)), []⟩,
      ⟨(some 62), .sls (.t 61) (some (xI 1)) none, (some (60, true)), []⟩,
      ⟨(some 63), .call n_lex_ends [(.t 62), (.v (.fn (.func 55) [] []))], (some (60, true)), []⟩,
      S 64 (.pick (.t 60) (.t 63) (xB false))])
     (.cond (.t 64)
      (.seq (.ops [S 65 (.mv (.t 0)),
       S 66 (.sls (.t 65) none (some (xI 1))),
       S 67 (.mv (.t 4)),
       S 68 (.bin .sub .none (.t 67) (.v (.p (.int .u8 65)))),
       S 69 (.conv .i64 (.t 68)),
       S 70 (.build [(eI 0), (eI 0), (.p (.str (bs []))), (eI 0)] [(0, 1, (xI 2)), (2, 1, (.t 66)), (3, 1, (.t 69))]),
       E (.st 4 (.t 2) (.t 70))])
      (.ret))
      (.skip)))
     (.seq (.ops [S 11 (.mv (.t 0)),
      S 12 (.call n_lex_sign [(.t 11)]),
      S 8 (.mv (.t 12))])
     (.seq (.ops [S 13 (.mv (.t 8)),
      S 14 (.bin .neq .none (.t 13) (.v (.p (.str (bs [])))))])
     (.cond (.t 14)
      (.seq (.ops [S 15 (.mv (.t 8)),
       S 16 (.build [(eI 0), (eI 0), (.p (.str (bs []))), (eI 0)] [(0, 1, (xI 4)), (2, 1, (.t 15))]),
       E (.st 4 (.t 2) (.t 16))])
      (.ret))
      (.skip))))))))))))
 (.seq (.ops [S 71 (.build [(eI 0), (eI 0), (.p (.str (bs []))), (eI 0)] []),
  E (.st 4 (.t 2) (.t 71))])
 (.ret)))),
 [.cell 2 true 4], false, true, false⟩
def d_query_parser_at : DFn := ⟨1,
 .seq (.ops [S 2 (.mv (xI 0))])
 (.seq (.ops [S 6 (.mv (.t 0)),
  S 7 (.nz (.t 6)),
  S 8 (.fld 0 (.t 7)),
  S 9 (.call n_query_row_now [(.t 8)]),
  S 5 (.mv (.t 9)),
  S 10 (.ext (.t 5) 0),
  S 11 (.ext (.t 5) 1),
  S 3 (.new true [(eI 0), (eI 0), (.p (.str (bs []))), (eI 0)]),
  E (.st 4 (.t 3) (.t 10)),
  S 4 (.mv (.t 11))])
 (.seq (.seq (.ops [S 12 (.mv (.t 4)),
  S 13 (.un .not (.t 12))])
 (.cond (.t 13)
  (.seq (.ops [S 14 (.mv (.t 0)),
   S 15 (.nz (.t 14)),
   S 16 (.fld 2 (.t 15)),
   S 17 (.ld false 1 (.t 16)),
   S 2 (.mv (.t 17))])
  (.ret))
  (.skip)))
 (.seq (.ops [S 18 (.fld 1 (.t 3)),
  S 19 (.ld false 1 (.t 18)),
  S 2 (.mv (.t 19))])
 (.ret)))),
 [.tmp 2], false, true, false⟩
def d_query_parser_is : DFn := ⟨2,
 .seq (.ops [S 4 (.mv (xB false))])
 (.seq (.ops [S 8 (.mv (.t 0)),
  S 9 (.nz (.t 8)),
  S 10 (.fld 0 (.t 9)),
  S 11 (.call n_query_row_now [(.t 10)]),
  S 7 (.mv (.t 11)),
  S 12 (.ext (.t 7) 0),
  S 13 (.ext (.t 7) 1),
  S 5 (.new true [(eI 0), (eI 0), (.p (.str (bs []))), (eI 0)]),
  E (.st 4 (.t 5) (.t 12)),
  S 6 (.mv (.t 13))])
 (.seq (.ops [S 14 (.mv (.t 6)),
  S 15 (.mv (.t 14)),
  ⟨(some 16), .fld 2 (.t 5), (some (15, true)), []⟩,
  ⟨(some 17), .ld false 1 (.t 16), (some (15, true)), []⟩,
  ⟨(some 18), .mv (.t 1), (some (15, true)), []⟩,
  ⟨(some 19), .bin .eql .none (.t 17) (.t 18), (some (15, true)), []⟩,
  S 20 (.pick (.t 15) (.t 19) (xB false)),
  S 4 (.mv (.t 20))])
 (.ret))),
 [.tmp 4], false, true, false⟩
def d_query_parser_sum : DFn := ⟨2,
 .seq (.ops [⟨(some 1), .mv (.v (.tup [])), none, [(1, .mv (.v (.p (.agg [(.bool true)]))), none)]⟩])
 (.block 900002 (.seq (.block 900001 (.seq (.block 900000 (.seq (.ops [S 2 (.nils 5 true)])
    (.seq (.seq (.ops [S 3 (.mv (.t 0))])
    (.seq (.ops [S 4 (.mv (.t 0))])
    (.seq (.ops [S 5 (.mkf (.func 62) [(.t 4)] [])])
    (.seq (.ops [S 6 (.lit 1 false [[(.p (.str (bs [])))], [(.p (.str (bs [])))]] [(0, (.v (.p (.str (bs [43]))))), (1, (.v (.p (.str (bs [45])))))])])
    (.seq (.ops [S 3000 (.may (.v (.fn (.func 61) [] [])) [(.t 3), (.t 5), (xI 1), (.t 6)]),
     S 3001 (.ext (.t 3000) 0)])
    (.cond (.t 3001)
     (.seq (.ops [S 3002 (.ext (.t 3000) 1),
      S 3000 (.mv (.v (.tup []))),
      S 3001 (.mv (.v (.tup [])))])
     (.exit 900001))
     (.seq (.ops [S 7 (.ext (.t 3000) 1),
      S 3000 (.mv (.v (.tup []))),
      S 3001 (.mv (.v (.tup [])))])
     (.seq (.ops [S 2 (.mv (.t 7))])
     (.skip)))))))))
    (.exit 900000))))
  (.seq (.ops [S 3002 (.mv (.t 2))])
  (.seq (.ops [S 3001 (.mv (xB false))])
  (.exit 900002)))))
  (.ops [S 3001 (.mv (xB true))]))),
 [.tmp 3001, .tmp 3002], false, false, false⟩
def d_query_parser_pick : DFn := ⟨3,
 .seq (.ops [⟨(some 2), .mv (.v (.tup [])), none, [(2, .mv (.v (.p (.agg [(.bool true)]))), none)]⟩])
 (.block 900002 (.seq (.block 900001 (.seq (.block 900000 (.seq (.ops [S 4 (.mv (xI 0))])
    (.seq (.ops [S 5 (.mv (.t 1)),
     S 6 (.mv (.t 0)),
     S 7 (.mkf (.func n_query_parser_may) [(.t 6)] []),
     S 8 (.call n_slices_IndexFunc_77 [(.t 5), (.t 7)]),
     S 4 (.mv (.t 8))])
    (.exit 900000))))
  (.seq (.ops [S 3002 (.mv (.t 4))])
  (.seq (.ops [S 3001 (.mv (xB false))])
  (.exit 900002)))))
  (.ops [S 3001 (.mv (xB true))]))),
 [.tmp 3001, .tmp 3002], false, false, false⟩
def d_query_row_now : DFn := ⟨1,
 .seq (.ops [S 2 (.new true [(eI 0), (eI 0), (.p (.str (bs []))), (eI 0)]),
  S 3 (.mv (xB false))])
 (.seq (.seq (.ops [S 5 (.mv (.t 0)),
  S 6 (.nz (.t 5)),
  S 7 (.fld 1 (.t 6)),
  S 8 (.ld false 1 (.t 7)),
  S 9 (.mv (.t 0)),
  S 10 (.nz (.t 9)),
  S 11 (.fld 0 (.t 10)),
  S 12 (.ld false 1 (.t 11)),
  S 13 (.len 0 (.t 12)),
  S 14 (.bin .lss .none (.t 8) (.t 13))])
 (.cond (.t 14)
  (.seq (.ops [S 15 (.mv (.t 0)),
   S 16 (.nz (.t 15)),
   S 17 (.fld 0 (.t 16)),
   S 18 (.ld false 1 (.t 17)),
   S 19 (.mv (.t 0)),
   S 20 (.nz (.t 19)),
   S 21 (.fld 1 (.t 20)),
   S 22 (.ld false 1 (.t 21)),
   S 23 (.ixa 4 (.t 18) (.t 22)),
   S 24 (.ld true 4 (.t 23)),
   E (.st 4 (.t 2) (.t 24)),
   S 3 (.mv (xB true))])
  (.ret))
  (.skip)))
 (.seq (.ops [S 4 (.new true [(eI 0), (eI 0), (.p (.str (bs []))), (eI 0)])])
 (.seq (.ops [S 25 (.ld true 4 (.t 4)),
  E (.st 4 (.t 2) (.t 25)),
  S 3 (.mv (xB false))])
 (.ret)))),
 [.cell 2 true 4, .tmp 3], false, true, false⟩
def d_strings_Index : DFn := ⟨2,
 .seq (.ops [S 4 (.mv (xI 0))])
 (.seq (.ops [S 5 (.mv (.t 0)),
  S 6 (.mv (.t 1)),
  S 7 (.call n_internal_stringslite_Index [(.t 5), (.t 6)]),
  S 4 (.mv (.t 7))])
 (.ret)),
 [.tmp 4], false, true, false⟩
def d_query_takes : DFn := ⟨1,
 .seq (.ops [S 1 (.box true 5 (.t 0)),
  S 2 (.mv (xI 0)),
  S 3 (.mv (xB false))])
 (.seq (.seq (.ops [S 4 (.fld 0 (.t 1)),
  S 5 (.ld false 1 (.t 4))])
 (.block 0 (.seq (.seq (.ops [S 7 (.bin .eql .none (.t 5) (xI 1)),
    S 6 (.mv (.t 7))])
  (.cond (.t 6)
   (.skip)
   (.seq (.ops [S 8 (.bin .eql .none (.t 5) (xI 2)),
    S 6 (.mv (.t 8))])
   (.cond (.t 6)
    (.skip)
    (.seq (.ops [S 9 (.bin .eql .none (.t 5) (xI 3)),
     S 6 (.mv (.t 9))])
    (.cond (.t 6)
     (.skip)
     (.seq (.ops [S 10 (.bin .eql .none (.t 5) (xI 4)),
      S 6 (.mv (.t 10))])
     (.cond (.t 6)
      (.skip)
      (.ops [S 11 (.bin .eql .none (.t 5) (xI 5)),
       S 6 (.mv (.t 11))])))))))))
  (.cond (.t 6)
   (.seq (.ops [S 2 (.mv (xI 2)),
    S 3 (.mv (xB true))])
   (.ret))
   (.seq (.ops [S 13 (.bin .eql .none (.t 5) (xI 9)),
    S 12 (.mv (.t 13))])
   (.cond (.t 12)
    (.seq (.ops [S 2 (.mv (xI 1)),
     S 3 (.mv (xB true))])
    (.ret))
    (.seq (.ops [S 15 (.bin .eql .none (.t 5) (xI 6)),
     S 14 (.mv (.t 15))])
    (.cond (.t 14)
     (.seq (.ops [S 16 (.fld 1 (.t 1)),
      S 17 (.ld false 1 (.t 16)),
      S 18 (.bin .geq .none (.t 17) (xI 0)),
      S 2 (.mv (xI 0)),
      S 3 (.mv (.t 18))])
     (.ret))
     (.seq (.ops [S 20 (.bin .eql .none (.t 5) (xI 8)),
      S 19 (.mv (.t 20))])
     (.cond (.t 19)
      (.seq (.ops [S 21 (.fld 2 (.t 1)),
       S 22 (.ld false 1 (.t 21)),
       S 23 (.call n_query_Name [(.t 22)]),
       S 2 (.mv (xI 0)),
       S 3 (.mv (.t 23))])
      (.ret))
      (.seq (.ops [S 25 (.bin .eql .none (.t 5) (xI 7)),
       S 24 (.mv (.t 25))])
      (.cond (.t 24)
       (.seq (.ops [S 26 (.fld 2 (.t 1)),
        S 27 (.ld false 1 (.t 26)),
        S 28 (.call n_query_Name [(.t 27)]),
        S 29 (.mv (.t 28)),
        ⟨(some 30), .fld 3 (.t 1), (some (29, true)), []⟩,
        ⟨(some 31), .ld false 1 (.t 30), (some (29, true)), []⟩,
        ⟨(some 32), .bin .geq .none (.t 31) (xI 0), (some (29, true)), []⟩,
        S 33 (.pick (.t 29) (.t 32) (xB false)),
        S 34 (.mv (.t 33)),
        ⟨(some 35), .fld 3 (.t 1), (some (34, true)), []⟩,
        ⟨(some 36), .ld false 1 (.t 35), (some (34, true)), []⟩,
        ⟨(some 37), .bin .lss .none (.t 36) (xI 4), (some (34, true)), []⟩,
        S 38 (.pick (.t 34) (.t 37) (xB false)),
        S 2 (.mv (xI 0)),
        S 3 (.mv (.t 38))])
       (.ret))
       (.skip)))))))))))))
 (.seq (.ops [S 2 (.mv (xI 0)),
  S 3 (.mv (xB false))])
 (.ret))),
 [.tmp 2, .tmp 3], false, true, false⟩
def d_internal_strconv_FormatInt : DFn := ⟨2,
 .seq (.ops [S 4 (.mv (.v (.p (.str (bs [])))))])
 (.seq (.seq (.ops [S 10 (.mv (.t 1)),
  S 11 (.bin .eql .none (.t 10) (xI 10))])
 (.cond (.t 11)
  (.seq (.seq (.ops [S 12 (.mv (.t 0)),
   S 13 (.bin .leq .none (xI 0) (.t 12)),
   S 14 (.mv (.t 13)),
   ⟨(some 15), .mv (.t 0), (some (14, true)), []⟩,
   ⟨(some 16), .bin .lss .none (.t 15) (xI 100), (some (14, true)), []⟩,
   S 17 (.pick (.t 14) (.t 16) (xB false))])
  (.cond (.t 17)
   (.seq (.ops [S 18 (.mv (.t 0)),
    S 19 (.call n_internal_strconv_small [(.t 18)]),
    S 4 (.mv (.t 19))])
   (.ret))
   (.skip)))
  (.seq (.ops [S 5 (.new true [(.p (.int .u8 0)), (.p (.int .u8 0)), (.p (.int .u8 0)), (.p (.int .u8 0)), (.p (.int .u8 0)), (.p (.int .u8 0)), (.p (.int .u8 0)), (.p (.int .u8 0)), (.p (.int .u8 0)), (.p (.int .u8 0)), (.p (.int .u8 0)), (.p (.int .u8 0)), (.p (.int .u8 0)), (.p (.int .u8 0)), (.p (.int .u8 0)), (.p (.int .u8 0)), (.p (.int .u8 0)), (.p (.int .u8 0)), (.p (.int .u8 0)), (.p (.int .u8 0)), (.p (.int .u8 0)), (.p (.int .u8 0)), (.p (.int .u8 0)), (.p (.int .u8 0))])])
  (.seq (.ops [S 20 (.mv (.t 0)),
   S 21 (.conv .u64 (.t 20)),
   S 6 (.mv (.t 21))])
  (.seq (.seq (.ops [S 22 (.mv (.t 0)),
   S 23 (.bin .lss .none (.t 22) (xI 0))])
  (.cond (.t 23)
   (.ops [S 24 (.mv (.t 6)),
    S 25 (.un .neg (.t 24)),
    S 6 (.mv (.t 25))])
   (.skip)))
  (.seq (.ops [S 26 (.mv (.t 6)),
   S 27 (.call 72 [(.t 26)]),
   S 7 (.mv (.t 27))])
  (.seq (.ops [S 28 (.mv (.t 7)),
   S 29 (.bin .add .none (xI 1) (.t 28)),
   S 30 (.sla 24 1 (.t 5) (some (xI 1)) (some (.t 29))),
   S 31 (.mv (.t 6)),
   S 32 (.call 73 [(.t 30), (.t 31)])])
  (.seq (.seq (.ops [S 33 (.mv (.t 0)),
   S 34 (.bin .lss .none (.t 33) (xI 0))])
  (.cond (.t 34)
   (.seq (.ops [S 35 (.ixp 24 1 (.t 5) (xI 0)),
    E (.st 1 (.t 35) (.v (.p (.int .u8 45))))])
   (.seq (.ops [S 36 (.mv (.t 7)),
    S 37 (.bin .add .none (xI 1) (.t 36)),
    S 38 (.sla 24 1 (.t 5) none (some (.t 37))),
    S 39 (.strb (.t 38)),
    S 4 (.mv (.t 39))])
   (.ret)))
   (.skip)))
  (.seq (.ops [S 40 (.mv (.t 7)),
   S 41 (.bin .add .none (xI 1) (.t 40)),
   S 42 (.sla 24 1 (.t 5) (some (xI 1)) (some (.t 41))),
   S 43 (.strb (.t 42)),
   S 4 (.mv (.t 43))])
  (.ret)))))))))
  (.skip)))
 (.seq (.ops [S 45 (.mv (.t 0)),
  S 46 (.conv .u64 (.t 45)),
  S 47 (.mv (.t 1)),
  S 48 (.mv (.t 0)),
  S 49 (.bin .lss .none (.t 48) (xI 0)),
  S 50 (.call 74 [(.v (.full [])), (.t 46), (.t 47), (.t 49), (xB false)]),
  S 44 (.mv (.t 50)),
  S 51 (.ext (.t 44) 0),
  S 52 (.ext (.t 44) 1),
  S 8 (.mv (.t 51)),
  S 9 (.mv (.t 52))])
 (.seq (.ops [S 53 (.mv (.t 9)),
  S 4 (.mv (.t 53))])
 (.ret)))),
 [.tmp 4], false, false, false⟩
def d_internal_stringslite_IndexByte : DFn := ⟨2,
 .seq (.ops [S 4 (.mv (xI 0))])
 (.seq (.ops [S 5 (.mv (.t 0)),
  S 6 (.mv (.t 1)),
  S 7 (.fnb (.t 5) (.t 6)),
  S 4 (.mv (.t 7))])
 (.ret)),
 [.tmp 4], false, true, false⟩
def d_lex_next_1 : DFn := ⟨1,
 .seq (.ops [S 2 (.mv (xB false))])
 (.seq (.ops [S 3 (.mv (.t 0)),
  S 4 (.call n_lex_small [(.t 3)]),
  S 5 (.mv (.t 4)),
  ⟨(some 6), .mv (.t 0), (some (5, false)), []⟩,
  ⟨(some 7), .call n_lex_digit [(.t 6)], (some (5, false)), []⟩,
  S 8 (.pick (.t 5) (xB true) (.t 7)),
  S 2 (.mv (.t 8))])
 (.ret)),
 [.tmp 2], false, true, false⟩
def d_lex_small : DFn := ⟨1,
 .seq (.ops [S 2 (.mv (xB false))])
 (.seq (.ops [S 3 (.mv (.t 0)),
  S 4 (.bin .leq .none (.v (.p (.int .u8 97))) (.t 3)),
  S 5 (.mv (.t 4)),
  ⟨(some 6), .mv (.t 0), (some (5, true)), []⟩,
  ⟨(some 7), .bin .leq .none (.t 6) (.v (.p (.int .u8 122))), (some (5, true)), []⟩,
  S 8 (.pick (.t 5) (.t 7) (xB false)),
  S 2 (.mv (.t 8))])
 (.ret)),
 [.tmp 2], false, true, false⟩
def d_lex_digit : DFn := ⟨1,
 .seq (.ops [S 2 (.mv (xB false))])
 (.seq (.ops [S 3 (.mv (.t 0)),
  S 4 (.bin .leq .none (.v (.p (.int .u8 48))) (.t 3)),
  S 5 (.mv (.t 4)),
  ⟨(some 6), .mv (.t 0), (some (5, true)), []⟩,
  ⟨(some 7), .bin .leq .none (.t 6) (.v (.p (.int .u8 57))), (some (5, true)), []⟩,
  S 8 (.pick (.t 5) (.t 7) (xB false)),
  S 2 (.mv (.t 8))])
 (.ret)),
 [.tmp 2], false, true, false⟩
def d_lex_run : DFn := ⟨2,
 .seq (.ops [S 4 (.mv (xI 0))])
 (.seq (.ops [S 5 (.mv (xI 0))])
 (.seq (.block 0 (.loop [0, 1, 5] (.seq (.seq (.ops [S 6 (.mv (.t 5)),
  S 7 (.mv (.t 0)),
  S 8 (.len 1 (.t 7)),
  S 9 (.bin .lss .none (.t 6) (.t 8)),
  S 10 (.mv (.t 9)),
  ⟨(some 11), .mv (.t 1), (some (10, true)), []⟩,
  ⟨(some 12), .mv (.t 0), (some (10, true)), []⟩,
  ⟨(some 13), .mv (.t 5), (some (10, true)), []⟩,
  ⟨(some 14), .ixs (.t 12) (.t 13), (some (10, true)), []⟩,
  ⟨(some 15), .callv (.t 11) [(.t 14)], (some (10, true)), []⟩,
  S 16 (.pick (.t 10) (.t 15) (xB false))])
  (.cond (.t 16)
   (.skip)
   (.exit 0)))
  (.block 1 (.ops [S 17 (.mv (.t 5)),
     S 18 (.bin .add .none (.t 17) (xI 1)),
     S 5 (.mv (.t 18))])))))
 (.seq (.ops [S 19 (.mv (.t 5)),
  S 4 (.mv (.t 19))])
 (.ret)))),
 [.tmp 4], false, true, false⟩
def d_lex_number : DFn := ⟨1,
 .seq (.ops [S 2 (.mv (xI 0)),
  S 3 (.mv (xB false))])
 (.seq (.ops [S 4 (.mv (xI 0))])
 (.seq (.seq (.ops [S 8 (.mv (.t 0)),
  S 9 (.byts (.t 8)),
  S 10 (.len 0 (.t 9)),
  S 11 (.mv (xI 0))])
 (.block 0 (.loop [4, 9, 10, 11] (.seq (.ops [S 12 (.bin .lss .none (.t 11) (.t 10))])
  (.seq (.cond (.t 12)
   (.skip)
   (.exit 0))
  (.seq (.block 1 (.seq (.ops [S 13 (.ixa 1 (.t 9) (.t 11)),
     S 14 (.ld false 1 (.t 13)),
     S 6 (.mv (.t 14))])
   (.seq (.ops [S 15 (.mv (.t 6)),
    S 16 (.bin .sub .none (.t 15) (.v (.p (.int .u8 48)))),
    S 17 (.conv .i64 (.t 16)),
    S 7 (.mv (.t 17))])
   (.seq (.seq (.ops [S 18 (.mv (.t 4)),
    S 19 (.mv (.t 7)),
    S 20 (.bin .sub .none (xI 9223372036854775807) (.t 19)),
    S 21 (.bin .quo .none (.t 20) (xI 10)),
    S 22 (.bin .gtr .none (.t 18) (.t 21))])
   (.cond (.t 22)
    (.seq (.ops [S 2 (.mv (xI 0)),
     S 3 (.mv (xB false))])
    (.ret))
    (.skip)))
   (.ops [S 23 (.mv (.t 4)),
    S 24 (.bin .mul .none (.t 23) (xI 10)),
    S 25 (.mv (.t 7)),
    S 26 (.bin .add .none (.t 24) (.t 25)),
    S 4 (.mv (.t 26))])))))
  (.ops [S 27 (.bin .add .none (.t 11) (xI 1)),
   S 11 (.mv (.t 27))])))))))
 (.seq (.ops [S 28 (.mv (.t 4)),
  S 2 (.mv (.t 28)),
  S 3 (.mv (xB true))])
 (.ret)))),
 [.tmp 2, .tmp 3], false, true, false⟩
def d_lex_ends : DFn := ⟨2,
 .seq (.ops [S 4 (.mv (xB false))])
 (.seq (.ops [S 5 (.mv (.t 0)),
  S 6 (.bin .eql .none (.t 5) (.v (.p (.str (bs []))))),
  S 7 (.mv (.t 6)),
  ⟨(some 8), .mv (.t 1), (some (7, false)), []⟩,
  ⟨(some 9), .mv (.t 0), (some (7, false)), []⟩,
  ⟨(some 10), .ixs (.t 9) (xI 0), (some (7, false)), []⟩,
  ⟨(some 11), .callv (.t 8) [(.t 10)], (some (7, false)), []⟩,
  ⟨(some 12), .un .not (.t 11), (some (7, false)), []⟩,
  S 13 (.pick (.t 7) (xB true) (.t 12)),
  S 4 (.mv (.t 13))])
 (.ret)),
 [.tmp 4], false, true, false⟩
def d_lex_letter : DFn := ⟨1,
 .seq (.ops [S 2 (.mv (xB false))])
 (.seq (.ops [S 3 (.mv (.t 0)),
  S 4 (.call n_lex_small [(.t 3)]),
  S 5 (.mv (.t 4)),
  ⟨(some 6), .mv (.t 0), (some (5, false)), []⟩,
  ⟨(some 7), .bin .leq .none (.v (.p (.int .u8 65))) (.t 6), (some (5, false)), []⟩,
  ⟨(some 8), .mv (.t 7), (some (5, false)), []⟩,
  ⟨(some 9), .mv (.t 0), (some (8, true)), []⟩,
  ⟨(some 10), .bin .leq .none (.t 9) (.v (.p (.int .u8 90))), (some (8, true)), []⟩,
  ⟨(some 11), .pick (.t 8) (.t 10) (xB false), (some (5, false)), []⟩,
  S 12 (.pick (.t 5) (xB true) (.t 11)),
  S 2 (.mv (.t 12))])
 (.ret)),
 [.tmp 2], false, true, false⟩
def d_lex_sign : DFn := ⟨1,
 .seq (.ops [S 2 (.mv (.v (.p (.str (bs [])))))])
 (.seq (.seq (.ops [S 3 (.mv (.t 0)),
  S 4 (.len 1 (.t 3)),
  S 5 (.bin .gtr .none (.t 4) (xI 1)),
  S 6 (.mv (.t 5)),
  ⟨(some 7), .mv (.t 0), (some (6, true)), []⟩,
  ⟨(some 8), .ixs (.t 7) (xI 1), (some (6, true)), []⟩,
  ⟨(some 9), .bin .eql .none (.t 8) (.v (.p (.int .u8 61))), (some (6, true)), []⟩,
  S 10 (.pick (.t 6) (.t 9) (xB false)),
  S 11 (.mv (.t 10)),
  ⟨(some 12), .mv (.t 0), (some (11, true)), []⟩,
  ⟨(some 13), .ixs (.t 12) (xI 0), (some (11, true)), []⟩,
  ⟨(some 14), .call n_strings_IndexByte [(.v (.p (.str (bs [33, 60, 62])))), (.t 13)], (some (11, true)), []⟩,
  ⟨(some 15), .bin .geq .none (.t 14) (xI 0), (some (11, true)), []⟩,
  S 16 (.pick (.t 11) (.t 15) (xB false))])
 (.cond (.t 16)
  (.seq (.ops [S 17 (.mv (.t 0)),
   S 18 (.sls (.t 17) none (some (xI 2))),
   S 2 (.mv (.t 18))])
  (.ret))
  (.skip)))
 (.seq (.seq (.ops [S 19 (.mv (.t 0)),
  S 20 (.ixs (.t 19) (xI 0)),
  S 21 (.call n_strings_IndexByte [(.v (.p (.str (bs [44, 43, 45, 42, 47, 37, 61, 60, 62, 46, 35, 33, 40, 41])))), (.t 20)]),
  S 22 (.bin .geq .none (.t 21) (xI 0))])
 (.cond (.t 22)
  (.seq (.ops [S 23 (.mv (.t 0)),
   S 24 (.sls (.t 23) none (some (xI 1))),
   S 2 (.mv (.t 24))])
  (.ret))
  (.skip)))
 (.seq (.ops [S 2 (.mv (.v (.p (.str (bs [])))))])
 (.ret)))),
 [.tmp 2], false, true, false⟩
def d_query_parser_chain : DFn := ⟨5,
 .seq (.ops [⟨(some 4), .mv (.v (.tup [])), none, [(4, .mv (.v (.p (.agg [(.bool true)]))), none)]⟩])
 (.block 900002 (.seq (.block 900001 (.seq (.block 900000 (.seq (.ops [S 8 (.nils 5 true)])
    (.seq (.seq (.ops [S 11 (.mv (.t 1))])
    (.seq (.ops [S 3000 (.may (.t 11) []),
     S 3001 (.ext (.t 3000) 0)])
    (.cond (.t 3001)
     (.seq (.ops [S 3002 (.ext (.t 3000) 1),
      S 3000 (.mv (.v (.tup []))),
      S 3001 (.mv (.v (.tup [])))])
     (.exit 900001))
     (.seq (.ops [S 12 (.ext (.t 3000) 1),
      S 3000 (.mv (.v (.tup []))),
      S 3001 (.mv (.v (.tup [])))])
     (.seq (.ops [S 9 (.mv (.t 12))])
     (.skip))))))
    (.block 0 (.loop [0, 1, 2, 3, 9] (.block 1 (.seq (.seq (.ops [S 13 (.mv (.t 0))])
       (.seq (.ops [S 14 (.mv (.t 3))])
       (.seq (.ops [S 3000 (.may (.v (.fn (.func 44) [] [])) [(.t 13), (.t 14)]),
        S 3001 (.ext (.t 3000) 0)])
       (.cond (.t 3001)
        (.seq (.ops [S 3002 (.ext (.t 3000) 1),
         S 3000 (.mv (.v (.tup []))),
         S 3001 (.mv (.v (.tup [])))])
        (.exit 900001))
        (.seq (.ops [S 15 (.ext (.t 3000) 1),
         S 3000 (.mv (.v (.tup []))),
         S 3001 (.mv (.v (.tup [])))])
        (.seq (.ops [S 10 (.mv (.t 15))])
        (.skip)))))))
       (.seq (.seq (.ops [S 16 (.mv (.t 10)),
        S 17 (.bin .lss .none (.t 16) (xI 0))])
       (.cond (.t 17)
        (.seq (.ops [S 18 (.mv (.t 9)),
         S 8 (.mv (.t 18))])
        (.exit 900000))
        (.skip)))
       (.seq (.ops [S 19 (.mv (.t 9))])
       (.seq (.ops [S 20 (.mv (.t 1))])
       (.seq (.ops [S 3000 (.may (.t 20) []),
        S 3001 (.ext (.t 3000) 0)])
       (.cond (.t 3001)
        (.seq (.ops [S 3002 (.ext (.t 3000) 1),
         S 3000 (.mv (.v (.tup []))),
         S 3001 (.mv (.v (.tup [])))])
        (.exit 900001))
        (.seq (.ops [S 21 (.ext (.t 3000) 1),
         S 3000 (.mv (.v (.tup []))),
         S 3001 (.mv (.v (.tup [])))])
        (.seq (.ops [S 22 (.app 5 true 48 (.t 19) (.t 21))])
        (.seq (.ops [S 23 (.mv (.t 2))])
        (.seq (.ops [S 24 (.mv (.t 10))])
        (.seq (.ops [S 25 (.bin .add .none (.t 23) (.t 24))])
        (.seq (.ops [S 26 (.build [(eI 0), (eI 0), (.p (.str (bs []))), (eI 0), (eI 0)] [(0, 1, (.t 25))])])
        (.seq (.ops [S 27 (.lit 5 true [[(eI 0), (eI 0), (.p (.str (bs []))), (eI 0), (eI 0)]] [(0, (.t 26))])])
        (.seq (.ops [S 28 (.app 5 true 48 (.t 22) (.t 27))])
        (.seq (.ops [S 9 (.mv (.t 28))])
        (.skip))))))))))))))))))))))
  (.seq (.ops [S 3002 (.mv (.t 8))])
  (.seq (.ops [S 3001 (.mv (xB false))])
  (.exit 900002)))))
  (.ops [S 3001 (.mv (xB true))]))),
 [.tmp 3001, .tmp 3002], false, false, false⟩
def d_query_parser_product : DFn := ⟨2,
 .seq (.ops [⟨(some 1), .mv (.v (.tup [])), none, [(1, .mv (.v (.p (.agg [(.bool true)]))), none)]⟩])
 (.block 900002 (.seq (.block 900001 (.seq (.block 900000 (.seq (.ops [S 2 (.nils 5 true)])
    (.seq (.seq (.ops [S 3 (.mv (.t 0))])
    (.seq (.ops [S 4 (.mv (.t 0))])
    (.seq (.ops [S 5 (.mkf (.func 76) [(.t 4)] [])])
    (.seq (.ops [S 6 (.lit 1 false [[(.p (.str (bs [])))], [(.p (.str (bs [])))], [(.p (.str (bs [])))]] [(0, (.v (.p (.str (bs [42]))))), (1, (.v (.p (.str (bs [47]))))), (2, (.v (.p (.str (bs [37])))))])])
    (.seq (.ops [S 3000 (.may (.v (.fn (.func 61) [] [])) [(.t 3), (.t 5), (xI 3), (.t 6)]),
     S 3001 (.ext (.t 3000) 0)])
    (.cond (.t 3001)
     (.seq (.ops [S 3002 (.ext (.t 3000) 1),
      S 3000 (.mv (.v (.tup []))),
      S 3001 (.mv (.v (.tup [])))])
     (.exit 900001))
     (.seq (.ops [S 7 (.ext (.t 3000) 1),
      S 3000 (.mv (.v (.tup []))),
      S 3001 (.mv (.v (.tup [])))])
     (.seq (.ops [S 2 (.mv (.t 7))])
     (.skip)))))))))
    (.exit 900000))))
  (.seq (.ops [S 3002 (.mv (.t 2))])
  (.seq (.ops [S 3001 (.mv (xB false))])
  (.exit 900002)))))
  (.ops [S 3001 (.mv (xB true))]))),
 [.tmp 3001, .tmp 3002], false, false, false⟩
def d_slices_IndexFunc_77 : DFn := ⟨2,
 .seq (.ops [S 4 (.mv (xI 0))])
 (.seq (.seq (.ops [S 6 (.mv (.t 0)),
  S 7 (.len 0 (.t 6)),
  S 8 (.mv (xI 0))])
 (.block 0 (.loop [0, 1, 7, 8] (.seq (.ops [S 9 (.bin .lss .none (.t 8) (.t 7))])
  (.seq (.cond (.t 9)
   (.skip)
   (.exit 0))
  (.seq (.block 1 (.seq (.ops [S 10 (.mv (.t 8)),
     S 5 (.mv (.t 10))])
   (.seq (.ops [S 11 (.mv (.t 1)),
    S 12 (.mv (.t 0)),
    S 13 (.mv (.t 5)),
    S 14 (.ixa 1 (.t 12) (.t 13)),
    S 15 (.ld false 1 (.t 14)),
    S 16 (.callv (.t 11) [(.t 15)])])
   (.cond (.t 16)
    (.seq (.ops [S 17 (.mv (.t 5)),
     S 4 (.mv (.t 17))])
    (.ret))
    (.skip)))))
  (.ops [S 18 (.bin .add .none (.t 8) (xI 1)),
   S 8 (.mv (.t 18))])))))))
 (.seq (.ops [S 4 (.mv (xI (-1)))])
 (.ret))),
 [.tmp 4], false, false, false⟩
def d_internal_stringslite_Index : DFn := ⟨2,
 .seq (.ops [S 4 (.mv (xI 0))])
 (.seq (.ops [S 14 (.mv (.t 1)),
  S 15 (.len 1 (.t 14)),
  S 5 (.mv (.t 15))])
 (.seq (.block 0 (.seq (.ops [S 17 (.mv (.t 5)),
    S 18 (.bin .eql .none (.t 17) (xI 0)),
    S 19 (.mv (.t 18)),
    ⟨(some 20), .mv (.t 1), (some (19, false)), []⟩,
    ⟨(some 21), .mv (.t 0), (some (19, false)), []⟩,
    ⟨(some 22), .bin .eql .none (.t 20) (.t 21), (some (19, false)), []⟩,
    S 23 (.pick (.t 19) (xB true) (.t 22)),
    S 16 (.mv (.t 23))])
  (.cond (.t 16)
   (.seq (.ops [S 4 (.mv (xI 0))])
   (.ret))
   (.seq (.ops [S 25 (.mv (.t 5)),
    S 26 (.bin .eql .none (.t 25) (xI 1)),
    S 24 (.mv (.t 26))])
   (.cond (.t 24)
    (.seq (.ops [S 27 (.mv (.t 0)),
     S 28 (.mv (.t 1)),
     S 29 (.ixs (.t 28) (xI 0)),
     S 30 (.call n_internal_stringslite_IndexByte [(.t 27), (.t 29)]),
     S 4 (.mv (.t 30))])
    (.ret))
    (.seq (.ops [S 32 (.mv (.t 5)),
     S 33 (.mv (.t 0)),
     S 34 (.len 1 (.t 33)),
     S 35 (.bin .geq .none (.t 32) (.t 34)),
     S 31 (.mv (.t 35))])
    (.cond (.t 31)
     (.seq (.ops [S 4 (.mv (xI (-1)))])
     (.ret))
     (.seq (.ops [S 37 (.mv (.t 5)),
      S 38 (.ld false 1 (.v (.cp mxTab 0))),
      S 39 (.bin .leq .none (.t 37) (.t 38)),
      S 40 (.mv (.t 39)),
      ⟨(some 41), .mv (.t 0), (some (40, true)), []⟩,
      ⟨(some 42), .len 1 (.t 41), (some (40, true)), []⟩,
      ⟨(some 43), .bin .leq .none (.t 42) (xI 64), (some (40, true)), []⟩,
      S 44 (.pick (.t 40) (.t 43) (xB false)),
      S 36 (.mv (.t 44))])
     (.cond (.t 36)
      (.seq (.ops [S 45 (.mv (.t 0)),
       S 46 (.mv (.t 1)),
       S 47 (.fnd Mx.m (.t 45) (.t 46)),
       S 4 (.mv (.t 47))])
      (.ret))
      (.skip))))))))))
 (.seq (.ops [S 48 (.mv (.t 1)),
  S 49 (.ixs (.t 48) (xI 0)),
  S 6 (.mv (.t 49))])
 (.seq (.ops [S 50 (.mv (.t 1)),
  S 51 (.ixs (.t 50) (xI 1)),
  S 7 (.mv (.t 51))])
 (.seq (.ops [S 8 (.mv (xI 0))])
 (.seq (.ops [S 52 (.mv (.t 0)),
  S 53 (.len 1 (.t 52)),
  S 54 (.mv (.t 5)),
  S 55 (.bin .sub .none (.t 53) (.t 54)),
  S 56 (.bin .add .none (.t 55) (xI 1)),
  S 9 (.mv (.t 56))])
 (.seq (.ops [S 10 (.mv (xI 0))])
 (.seq (.block 1 (.loop [0, 1, 5, 6, 7, 8, 9, 10] (.seq (.seq (.ops [S 57 (.mv (.t 8)),
  S 58 (.mv (.t 9)),
  S 59 (.bin .lss .none (.t 57) (.t 58))])
  (.cond (.t 59)
   (.skip)
   (.exit 1)))
  (.block 2 (.seq (.seq (.ops [S 60 (.mv (.t 0)),
     S 61 (.mv (.t 8)),
     S 62 (.ixs (.t 60) (.t 61)),
     S 63 (.mv (.t 6)),
     S 64 (.bin .neq .none (.t 62) (.t 63))])
   (.cond (.t 64)
    (.seq (.ops [S 65 (.mv (.t 0)),
     S 66 (.mv (.t 8)),
     S 67 (.bin .add .none (.t 66) (xI 1)),
     S 68 (.mv (.t 9)),
     S 69 (.sls (.t 65) (some (.t 67)) (some (.t 68))),
     S 70 (.mv (.t 6)),
     S 71 (.call n_internal_stringslite_IndexByte [(.t 69), (.t 70)]),
     S 11 (.mv (.t 71))])
    (.seq (.seq (.ops [S 72 (.mv (.t 11)),
     S 73 (.bin .lss .none (.t 72) (xI 0))])
    (.cond (.t 73)
     (.seq (.ops [S 4 (.mv (xI (-1)))])
     (.ret))
     (.skip)))
    (.ops [S 74 (.mv (.t 8)),
     S 75 (.mv (.t 11)),
     S 76 (.bin .add .none (.t 75) (xI 1)),
     S 77 (.bin .add .none (.t 74) (.t 76)),
     S 8 (.mv (.t 77))])))
    (.skip)))
   (.seq (.seq (.ops [S 78 (.mv (.t 0)),
    S 79 (.mv (.t 8)),
    S 80 (.bin .add .none (.t 79) (xI 1)),
    S 81 (.ixs (.t 78) (.t 80)),
    S 82 (.mv (.t 7)),
    S 83 (.bin .eql .none (.t 81) (.t 82)),
    S 84 (.mv (.t 83)),
    ⟨(some 85), .mv (.t 0), (some (84, true)), []⟩,
    ⟨(some 86), .mv (.t 8), (some (84, true)), []⟩,
    ⟨(some 87), .mv (.t 8), (some (84, true)), []⟩,
    ⟨(some 88), .mv (.t 5), (some (84, true)), []⟩,
    ⟨(some 89), .bin .add .none (.t 87) (.t 88), (some (84, true)), []⟩,
    ⟨(some 90), .sls (.t 85) (some (.t 86)) (some (.t 89)), (some (84, true)), []⟩,
    ⟨(some 91), .mv (.t 1), (some (84, true)), []⟩,
    ⟨(some 92), .bin .eql .none (.t 90) (.t 91), (some (84, true)), []⟩,
    S 93 (.pick (.t 84) (.t 92) (xB false))])
   (.cond (.t 93)
    (.seq (.ops [S 94 (.mv (.t 8)),
     S 4 (.mv (.t 94))])
    (.ret))
    (.skip)))
   (.seq (.ops [S 95 (.mv (.t 8)),
    S 96 (.bin .add .none (.t 95) (xI 1)),
    S 8 (.mv (.t 96))])
   (.seq (.ops [S 97 (.mv (.t 10)),
    S 98 (.bin .add .none (.t 97) (xI 1)),
    S 10 (.mv (.t 98))])
   (.seq (.ops [S 99 (.mv (.t 5)),
    S 100 (.ld false 1 (.v (.cp mxTab 0))),
    S 101 (.bin .leq .none (.t 99) (.t 100)),
    S 102 (.mv (.t 101)),
    ⟨(some 103), .mv (.t 10), (some (102, true)), []⟩,
    ⟨(some 104), .mv (.t 8), (some (102, true)), []⟩,
    ⟨(some 105), .call n_internal_bytealg_Cutover [(.t 104)], (some (102, true)), []⟩,
    ⟨(some 106), .bin .gtr .none (.t 103) (.t 105), (some (102, true)), []⟩,
    S 107 (.pick (.t 102) (.t 106) (xB false))])
   (.cond (.t 107)
    (.seq (.ops [S 108 (.mv (.t 0)),
     S 109 (.mv (.t 8)),
     S 110 (.sls (.t 108) (some (.t 109)) none),
     S 111 (.mv (.t 1)),
     S 112 (.fnd Mx.m (.t 110) (.t 111)),
     S 12 (.mv (.t 112))])
    (.seq (.seq (.ops [S 113 (.mv (.t 12)),
     S 114 (.bin .geq .none (.t 113) (xI 0))])
    (.cond (.t 114)
     (.seq (.ops [S 115 (.mv (.t 12)),
      S 116 (.mv (.t 8)),
      S 117 (.bin .add .none (.t 115) (.t 116)),
      S 4 (.mv (.t 117))])
     (.ret))
     (.skip)))
    (.seq (.ops [S 4 (.mv (xI (-1)))])
    (.ret))))
    (.seq (.ops [S 118 (.mv (.t 5)),
     S 119 (.ld false 1 (.v (.cp mxTab 0))),
     S 120 (.bin .gtr .none (.t 118) (.t 119)),
     S 121 (.mv (.t 120)),
     ⟨(some 122), .mv (.t 10), (some (121, true)), []⟩,
     ⟨(some 123), .mv (.t 8), (some (121, true)), []⟩,
     ⟨(some 124), .bin .shr .none (.t 123) (.v (.p (.int .u64 4))), (some (121, true)), []⟩,
     ⟨(some 125), .bin .add .none (xI 4) (.t 124), (some (121, true)), []⟩,
     ⟨(some 126), .bin .geq .none (.t 122) (.t 125), (some (121, true)), []⟩,
     S 127 (.pick (.t 121) (.t 126) (xB false)),
     S 128 (.mv (.t 127)),
     ⟨(some 129), .mv (.t 8), (some (128, true)), []⟩,
     ⟨(some 130), .mv (.t 9), (some (128, true)), []⟩,
     ⟨(some 131), .bin .lss .none (.t 129) (.t 130), (some (128, true)), []⟩,
     S 132 (.pick (.t 128) (.t 131) (xB false))])
    (.cond (.t 132)
     (.seq (.ops [S 133 (.mv (.t 0)),
      S 134 (.mv (.t 8)),
      S 135 (.sls (.t 133) (some (.t 134)) none),
      S 136 (.mv (.t 1)),
      S 137 (.call n_internal_bytealg_IndexRabinKarp [(.t 135), (.t 136)]),
      S 13 (.mv (.t 137))])
     (.seq (.seq (.ops [S 138 (.mv (.t 13)),
      S 139 (.bin .lss .none (.t 138) (xI 0))])
     (.cond (.t 139)
      (.seq (.ops [S 4 (.mv (xI (-1)))])
      (.ret))
      (.skip)))
     (.seq (.ops [S 140 (.mv (.t 8)),
      S 141 (.mv (.t 13)),
      S 142 (.bin .add .none (.t 140) (.t 141)),
      S 4 (.mv (.t 142))])
     (.ret))))
     (.skip)))))))))))))
 (.seq (.ops [S 4 (.mv (xI (-1)))])
 (.ret)))))))))),
 [.tmp 4], false, true, false⟩
def d_internal_strconv_small : DFn := ⟨1,
 .seq (.ops [S 2 (.mv (.v (.p (.str (bs [])))))])
 (.seq (.seq (.ops [S 3 (.mv (.t 0)),
  S 4 (.bin .lss .none (.t 3) (xI 10))])
 (.cond (.t 4)
  (.seq (.ops [S 5 (.mv (.t 0)),
   S 6 (.mv (.t 0)),
   S 7 (.bin .add .none (.t 6) (xI 1)),
   S 8 (.sls (.v (.p (.str (bs [48, 49, 50, 51, 52, 53, 54, 55, 56, 57, 97, 98, 99, 100, 101, 102, 103, 104, 105, 106, 107, 108, 109, 110, 111, 112, 113, 114, 115, 116, 117, 118, 119, 120, 121, 122])))) (some (.t 5)) (some (.t 7))),
   S 2 (.mv (.t 8))])
  (.ret))
  (.skip)))
 (.seq (.ops [S 9 (.mv (.t 0)),
  S 10 (.bin .mul .none (.t 9) (xI 2)),
  S 11 (.mv (.t 0)),
  S 12 (.bin .mul .none (.t 11) (xI 2)),
  S 13 (.bin .add .none (.t 12) (xI 2)),
  S 14 (.sls (.v (.p (.str (bs [48, 48, 48, 49, 48, 50, 48, 51, 48, 52, 48, 53, 48, 54, 48, 55, 48, 56, 48, 57, 49, 48, 49, 49, 49, 50, 49, 51, 49, 52, 49, 53, 49, 54, 49, 55, 49, 56, 49, 57, 50, 48, 50, 49, 50, 50, 50, 51, 50, 52, 50, 53, 50, 54, 50, 55, 50, 56, 50, 57, 51, 48, 51, 49, 51, 50, 51, 51, 51, 52, 51, 53, 51, 54, 51, 55, 51, 56, 51, 57, 52, 48, 52, 49, 52, 50, 52, 51, 52, 52, 52, 53, 52, 54, 52, 55, 52, 56, 52, 57, 53, 48, 53, 49, 53, 50, 53, 51, 53, 52, 53, 53, 53, 54, 53, 55, 53, 56, 53, 57, 54, 48, 54, 49, 54, 50, 54, 51, 54, 52, 54, 53, 54, 54, 54, 55, 54, 56, 54, 57, 55, 48, 55, 49, 55, 50, 55, 51, 55, 52, 55, 53, 55, 54, 55, 55, 55, 56, 55, 57, 56, 48, 56, 49, 56, 50, 56, 51, 56, 52, 56, 53, 56, 54, 56, 55, 56, 56, 56, 57, 57, 48, 57, 49, 57, 50, 57, 51, 57, 52, 57, 53, 57, 54, 57, 55, 57, 56, 57, 57])))) (some (.t 10)) (some (.t 13))),
  S 2 (.mv (.t 14))])
 (.ret))),
 [.tmp 2], false, false, false⟩
def d_query_parser_unary : DFn := ⟨2,
 .seq (.ops [⟨(some 1), .mv (.v (.tup [])), none, [(1, .mv (.v (.p (.agg [(.bool true)]))), none)]⟩])
 (.block 900002 (.seq (.block 900001 (.seq (.block 900000 (.seq (.ops [S 2 (.nils 5 true)])
    (.seq (.ops [S 8 (.mv (.t 0)),
     S 9 (.nz (.t 8)),
     S 10 (.fld 0 (.t 9)),
     S 11 (.call n_query_row_now [(.t 10)]),
     S 7 (.mv (.t 11)),
     S 12 (.ext (.t 7) 0),
     S 13 (.ext (.t 7) 1),
     S 3 (.new true [(eI 0), (eI 0), (.p (.str (bs []))), (eI 0)]),
     E (.st 4 (.t 3) (.t 12)),
     S 4 (.mv (.t 13))])
    (.seq (.block 0 (.seq (.ops [S 15 (.mv (.t 0)),
       S 16 (.call n_query_parser_is [(.t 15), (.v (.p (.str (bs [45]))))]),
       S 14 (.mv (.t 16))])
     (.cond (.t 14)
      (.seq (.seq (.ops [S 17 (.mv (.t 0))])
      (.seq (.ops [S 18 (.mv (.t 0))])
      (.seq (.ops [S 19 (.mkf (.func 76) [(.t 18)] [])])
      (.seq (.ops [S 3000 (.may (.v (.fn (.func 86) [] [])) [(.t 17), (.t 19)]),
       S 3001 (.ext (.t 3000) 0)])
      (.cond (.t 3001)
       (.seq (.ops [S 3002 (.ext (.t 3000) 1),
        S 3000 (.mv (.v (.tup []))),
        S 3001 (.mv (.v (.tup [])))])
       (.exit 900001))
       (.seq (.ops [S 20 (.ext (.t 3000) 1),
        S 3000 (.mv (.v (.tup []))),
        S 3001 (.mv (.v (.tup [])))])
       (.seq (.ops [S 21 (.build [(eI 0), (eI 0), (.p (.str (bs []))), (eI 0), (eI 0)] [(0, 1, (xI 9))])])
       (.seq (.ops [S 22 (.lit 5 true [[(eI 0), (eI 0), (.p (.str (bs []))), (eI 0), (eI 0)]] [(0, (.t 21))])])
       (.seq (.ops [S 23 (.app 5 true 48 (.t 20) (.t 22))])
       (.seq (.ops [S 2 (.mv (.t 23))])
       (.skip)))))))))))
      (.exit 900000))
      (.seq (.ops [S 25 (.mv (.t 0)),
       S 26 (.call n_query_parser_is [(.t 25), (.v (.p (.str (bs [40]))))]),
       S 24 (.mv (.t 26))])
      (.cond (.t 24)
       (.seq (.seq (.ops [S 27 (.mv (.t 0))])
       (.seq (.ops [S 28 (.mv (.t 0))])
       (.seq (.ops [S 29 (.mkf (.func 43) [(.t 28)] [])])
       (.seq (.ops [S 3000 (.may (.v (.fn (.func 86) [] [])) [(.t 27), (.t 29)]),
        S 3001 (.ext (.t 3000) 0)])
       (.cond (.t 3001)
        (.seq (.ops [S 3002 (.ext (.t 3000) 1),
         S 3000 (.mv (.v (.tup []))),
         S 3001 (.mv (.v (.tup [])))])
        (.exit 900001))
        (.seq (.ops [S 30 (.ext (.t 3000) 1),
         S 3000 (.mv (.v (.tup []))),
         S 3001 (.mv (.v (.tup [])))])
        (.seq (.ops [S 5 (.mv (.t 30))])
        (.skip))))))))
       (.seq (.seq (.ops [S 31 (.mv (.t 0))])
       (.seq (.ops [S 32 (.mv (.t 0))])
       (.seq (.ops [S 33 (.call n_query_parser_may [(.t 32), (.v (.p (.str (bs [41]))))])])
       (.seq (.ops [S 3000 (.may (.v (.fn (.func 24) [] [])) [(.t 31), (.t 33)]),
        S 3001 (.ext (.t 3000) 0)])
       (.cond (.t 3001)
        (.seq (.ops [S 3002 (.ext (.t 3000) 1),
         S 3000 (.mv (.v (.tup []))),
         S 3001 (.mv (.v (.tup [])))])
        (.exit 900001))
        (.seq (.ops [S 34 (.ext (.t 3000) 1),
         S 3000 (.mv (.v (.tup []))),
         S 3001 (.mv (.v (.tup [])))])
        (.skip)))))))
       (.seq (.ops [S 35 (.mv (.t 5)),
        S 2 (.mv (.t 35))])
       (.exit 900000))))
       (.seq (.ops [S 37 (.mv (.t 0)),
        S 38 (.call n_query_parser_may [(.t 37), (.v (.p (.str (bs [35]))))]),
        S 36 (.mv (.t 38))])
       (.cond (.t 36)
        (.seq (.seq (.ops [S 39 (.mv (.t 0))])
        (.seq (.ops [S 3000 (.may (.v (.fn (.func 28) [] [])) [(.t 39), (xI 1)]),
         S 3001 (.ext (.t 3000) 0)])
        (.cond (.t 3001)
         (.seq (.ops [S 3002 (.ext (.t 3000) 1),
          S 3000 (.mv (.v (.tup []))),
          S 3001 (.mv (.v (.tup [])))])
         (.exit 900001))
         (.seq (.ops [S 40 (.ext (.t 3000) 1),
          S 3000 (.mv (.v (.tup []))),
          S 3001 (.mv (.v (.tup [])))])
         (.seq (.ops [S 41 (.fget 2 1 false (.t 40))])
         (.seq (.ops [S 42 (.build [(eI 0), (eI 0), (.p (.str (bs []))), (eI 0), (eI 0)] [(0, 1, (xI 8)), (2, 1, (.t 41))])])
         (.seq (.ops [S 43 (.lit 5 true [[(eI 0), (eI 0), (.p (.str (bs []))), (eI 0), (eI 0)]] [(0, (.t 42))])])
         (.seq (.ops [S 2 (.mv (.t 43))])
         (.skip)))))))))
        (.exit 900000))
        (.seq (.ops [S 45 (.fld 0 (.t 3)),
         S 46 (.ld false 1 (.t 45)),
         S 47 (.bin .eql .none (.t 46) (xI 3)),
         S 44 (.mv (.t 47))])
        (.cond (.t 44)
         (.seq (.seq (.ops [S 48 (.mv (.t 0))])
         (.seq (.ops [S 3000 (.may (.v (.fn (.func 28) [] [])) [(.t 48), (xI 3)]),
          S 3001 (.ext (.t 3000) 0)])
         (.cond (.t 3001)
          (.seq (.ops [S 3002 (.ext (.t 3000) 1),
           S 3000 (.mv (.v (.tup []))),
           S 3001 (.mv (.v (.tup [])))])
          (.exit 900001))
          (.seq (.ops [S 49 (.ext (.t 3000) 1),
           S 3000 (.mv (.v (.tup []))),
           S 3001 (.mv (.v (.tup [])))])
          (.seq (.ops [S 50 (.fget 3 1 false (.t 49))])
          (.seq (.ops [S 51 (.build [(eI 0), (eI 0), (.p (.str (bs []))), (eI 0), (eI 0)] [(0, 1, (xI 6)), (1, 1, (.t 50))])])
          (.seq (.ops [S 52 (.lit 5 true [[(eI 0), (eI 0), (.p (.str (bs []))), (eI 0), (eI 0)]] [(0, (.t 51))])])
          (.seq (.ops [S 2 (.mv (.t 52))])
          (.skip)))))))))
         (.exit 900000))
         (.skip))))))))))
    (.seq (.seq (.ops [S 53 (.mv (.t 0))])
    (.seq (.ops [S 3000 (.may (.v (.fn (.func 28) [] [])) [(.t 53), (xI 1)]),
     S 3001 (.ext (.t 3000) 0)])
    (.cond (.t 3001)
     (.seq (.ops [S 3002 (.ext (.t 3000) 1),
      S 3000 (.mv (.v (.tup []))),
      S 3001 (.mv (.v (.tup [])))])
     (.exit 900001))
     (.seq (.ops [S 54 (.ext (.t 3000) 1),
      S 3000 (.mv (.v (.tup []))),
      S 3001 (.mv (.v (.tup [])))])
     (.seq (.ops [S 55 (.fget 2 1 false (.t 54))])
     (.seq (.ops [S 56 (.build [(eI 0), (eI 0), (.p (.str (bs []))), (eI 0), (eI 0)] [(0, 1, (xI 7)), (2, 1, (.t 55))])])
     (.seq (.ops [S 6 (.new true [(eI 0), (eI 0), (.p (.str (bs []))), (eI 0), (eI 0)])])
     (.seq (.ops [E (.st 5 (.t 6) (.t 56))])
     (.skip)))))))))
    (.seq (.seq (.ops [S 57 (.mv (.t 0))])
    (.seq (.ops [S 58 (.mv (.t 0))])
    (.seq (.ops [S 59 (.call n_query_parser_may [(.t 58), (.v (.p (.str (bs [46]))))])])
    (.seq (.ops [S 3000 (.may (.v (.fn (.func 24) [] [])) [(.t 57), (.t 59)]),
     S 3001 (.ext (.t 3000) 0)])
    (.cond (.t 3001)
     (.seq (.ops [S 3002 (.ext (.t 3000) 1),
      S 3000 (.mv (.v (.tup []))),
      S 3001 (.mv (.v (.tup [])))])
     (.exit 900001))
     (.seq (.ops [S 60 (.ext (.t 3000) 1),
      S 3000 (.mv (.v (.tup []))),
      S 3001 (.mv (.v (.tup [])))])
     (.skip)))))))
    (.seq (.seq (.ops [S 61 (.mv (.t 0))])
    (.seq (.ops [S 62 (.lit 1 false [[(.p (.str (bs [])))], [(.p (.str (bs [])))], [(.p (.str (bs [])))], [(.p (.str (bs [])))]] [(0, (.v (.p (.str (bs [120]))))), (1, (.v (.p (.str (bs [121]))))), (2, (.v (.p (.str (bs [122]))))), (3, (.v (.p (.str (bs [119])))))])])
    (.seq (.ops [S 3000 (.may (.v (.fn (.func 44) [] [])) [(.t 61), (.t 62)]),
     S 3001 (.ext (.t 3000) 0)])
    (.cond (.t 3001)
     (.seq (.ops [S 3002 (.ext (.t 3000) 1),
      S 3000 (.mv (.v (.tup []))),
      S 3001 (.mv (.v (.tup [])))])
     (.exit 900001))
     (.seq (.ops [S 63 (.ext (.t 3000) 1),
      S 3000 (.mv (.v (.tup []))),
      S 3001 (.mv (.v (.tup [])))])
     (.seq (.ops [S 64 (.fld 3 (.t 6))])
     (.seq (.ops [E (.st 1 (.t 64) (.t 63))])
     (.skip))))))))
    (.seq (.seq (.ops [S 65 (.mv (.t 0))])
    (.seq (.ops [S 66 (.fld 3 (.t 6))])
    (.seq (.ops [S 67 (.ld false 1 (.t 66))])
    (.seq (.ops [S 68 (.bin .geq .none (.t 67) (xI 0))])
    (.seq (.ops [S 3000 (.may (.v (.fn (.func 24) [] [])) [(.t 65), (.t 68)]),
     S 3001 (.ext (.t 3000) 0)])
    (.cond (.t 3001)
     (.seq (.ops [S 3002 (.ext (.t 3000) 1),
      S 3000 (.mv (.v (.tup []))),
      S 3001 (.mv (.v (.tup [])))])
     (.exit 900001))
     (.seq (.ops [S 69 (.ext (.t 3000) 1),
      S 3000 (.mv (.v (.tup []))),
      S 3001 (.mv (.v (.tup [])))])
     (.skip))))))))
    (.seq (.ops [S 70 (.ld true 5 (.t 6)),
     S 71 (.lit 5 true [[(eI 0), (eI 0), (.p (.str (bs []))), (eI 0), (eI 0)]] [(0, (.t 70))]),
     S 2 (.mv (.t 71))])
    (.exit 900000))))))))))
  (.seq (.ops [S 3002 (.mv (.t 2))])
  (.seq (.ops [S 3001 (.mv (xB false))])
  (.exit 900002)))))
  (.ops [S 3001 (.mv (xB true))]))),
 [.tmp 3001, .tmp 3002], false, false, false⟩
def d_internal_bytealg_Cutover : DFn := ⟨1,
 .seq (.ops [S 2 (.mv (xI 0))])
 (.seq (.ops [S 3 (.mv (.t 0)),
  S 4 (.bin .add .none (.t 3) (xI 16)),
  S 5 (.bin .quo .none (.t 4) (xI 8)),
  S 2 (.mv (.t 5))])
 (.ret)),
 [.tmp 2], false, true, false⟩
def d_internal_bytealg_IndexRabinKarp : DFn := ⟨2,
 .seq (.ops [S 4 (.mv (xI 0))])
 (.seq (.ops [S 12 (.mv (.t 1)),
  S 13 (.call n_internal_bytealg_hashStr [(.t 12)]),
  S 11 (.mv (.t 13)),
  S 14 (.ext (.t 11) 0),
  S 15 (.ext (.t 11) 1),
  S 5 (.mv (.t 14)),
  S 6 (.mv (.t 15))])
 (.seq (.ops [S 16 (.mv (.t 1)),
  S 17 (.len 1 (.t 16)),
  S 7 (.mv (.t 17))])
 (.seq (.ops [S 8 (.mv (.v (.p (.int .u32 0))))])
 (.seq (.seq (.ops [S 9 (.mv (xI 0))])
 (.block 0 (.loop [0, 1, 5, 6, 7, 8, 9] (.seq (.seq (.ops [S 18 (.mv (.t 9)),
  S 19 (.mv (.t 7)),
  S 20 (.bin .lss .none (.t 18) (.t 19))])
  (.cond (.t 20)
   (.skip)
   (.exit 0)))
  (.seq (.block 1 (.ops [S 23 (.mv (.t 8)),
     S 24 (.bin .mul .none (.t 23) (.v (.p (.int .u32 16777619)))),
     S 25 (.mv (.t 0)),
     S 26 (.mv (.t 9)),
     S 27 (.ixs (.t 25) (.t 26)),
     S 28 (.conv .u32 (.t 27)),
     S 29 (.bin .add .none (.t 24) (.t 28)),
     S 8 (.mv (.t 29))]))
  (.ops [S 21 (.mv (.t 9)),
   S 22 (.bin .add .none (.t 21) (xI 1)),
   S 9 (.mv (.t 22))]))))))
 (.seq (.seq (.ops [S 30 (.mv (.t 8)),
  S 31 (.mv (.t 5)),
  S 32 (.bin .eql .none (.t 30) (.t 31)),
  S 33 (.mv (.t 32)),
  ⟨(some 34), .mv (.t 0), (some (33, true)), []⟩,
  ⟨(some 35), .mv (.t 7), (some (33, true)), []⟩,
  ⟨(some 36), .sls (.t 34) none (some (.t 35)), (some (33, true)), []⟩,
  ⟨(some 37), .mv (.t 1), (some (33, true)), []⟩,
  ⟨(some 38), .bin .eql .none (.t 36) (.t 37), (some (33, true)), []⟩,
  S 39 (.pick (.t 33) (.t 38) (xB false))])
 (.cond (.t 39)
  (.seq (.ops [S 4 (.mv (xI 0))])
  (.ret))
  (.skip)))
 (.seq (.seq (.ops [S 40 (.mv (.t 7)),
  S 10 (.mv (.t 40))])
 (.block 2 (.loop [0, 1, 5, 6, 7, 8, 10] (.seq (.seq (.ops [S 41 (.mv (.t 10)),
  S 42 (.mv (.t 0)),
  S 43 (.len 1 (.t 42)),
  S 44 (.bin .lss .none (.t 41) (.t 43))])
  (.cond (.t 44)
   (.skip)
   (.exit 2)))
  (.block 3 (.seq (.ops [S 45 (.mv (.t 8)),
     S 46 (.bin .mul .none (.t 45) (.v (.p (.int .u32 16777619)))),
     S 8 (.mv (.t 46))])
   (.seq (.ops [S 47 (.mv (.t 8)),
    S 48 (.mv (.t 0)),
    S 49 (.mv (.t 10)),
    S 50 (.ixs (.t 48) (.t 49)),
    S 51 (.conv .u32 (.t 50)),
    S 52 (.bin .add .none (.t 47) (.t 51)),
    S 8 (.mv (.t 52))])
   (.seq (.ops [S 53 (.mv (.t 8)),
    S 54 (.mv (.t 6)),
    S 55 (.mv (.t 0)),
    S 56 (.mv (.t 10)),
    S 57 (.mv (.t 7)),
    S 58 (.bin .sub .none (.t 56) (.t 57)),
    S 59 (.ixs (.t 55) (.t 58)),
    S 60 (.conv .u32 (.t 59)),
    S 61 (.bin .mul .none (.t 54) (.t 60)),
    S 62 (.bin .sub .none (.t 53) (.t 61)),
    S 8 (.mv (.t 62))])
   (.seq (.ops [S 63 (.mv (.t 10)),
    S 64 (.bin .add .none (.t 63) (xI 1)),
    S 10 (.mv (.t 64))])
   (.seq (.ops [S 65 (.mv (.t 8)),
    S 66 (.mv (.t 5)),
    S 67 (.bin .eql .none (.t 65) (.t 66)),
    S 68 (.mv (.t 67)),
    ⟨(some 69), .mv (.t 0), (some (68, true)), []⟩,
    ⟨(some 70), .mv (.t 10), (some (68, true)), []⟩,
    ⟨(some 71), .mv (.t 7), (some (68, true)), []⟩,
    ⟨(some 72), .bin .sub .none (.t 70) (.t 71), (some (68, true)), []⟩,
    ⟨(some 73), .mv (.t 10), (some (68, true)), []⟩,
    ⟨(some 74), .sls (.t 69) (some (.t 72)) (some (.t 73)), (some (68, true)), []⟩,
    ⟨(some 75), .mv (.t 1), (some (68, true)), []⟩,
    ⟨(some 76), .bin .eql .none (.t 74) (.t 75), (some (68, true)), []⟩,
    S 77 (.pick (.t 68) (.t 76) (xB false))])
   (.cond (.t 77)
    (.seq (.ops [S 78 (.mv (.t 10)),
     S 79 (.mv (.t 7)),
     S 80 (.bin .sub .none (.t 78) (.t 79)),
     S 4 (.mv (.t 80))])
    (.ret))
    (.skip))))))))))))
 (.seq (.ops [S 4 (.mv (xI (-1)))])
 (.ret)))))))),
 [.tmp 4], false, true, false⟩
def d_query_parser_within : DFn := ⟨3,
 .seq (.ops [⟨(some 2), .mv (.v (.tup [])), none, [(2, .mv (.v (.p (.agg [(.bool true)]))), none)]⟩])
 (.block 900002 (.seq (.block 900001 (.seq (.block 900000 (.seq (.ops [S 4 (.nils 5 true)])
    (.seq (.seq (.ops [S 6 (.mv (.t 0)),
     S 7 (.nz (.t 6)),
     S 8 (.fld 3 (.t 7)),
     S 9 (.ld false 1 (.t 8)),
     S 10 (.bin .eql .none (.t 9) (xI 16))])
    (.cond (.t 10)
     (.seq (.ops [S 11 (.mv (.t 0))])
     (.seq (.ops [S 12 (.call n_query_parser_at [(.t 11)])])
     (.seq (.ops [S 13 (.build [(eI 0), (eI 0)] [(0, 1, (.t 12)), (1, 1, (xI 12))])])
     (.seq (.ops [S 14 (.mki 39 (.t 13))])
     (.seq (.ops [S 3000 (.asr 39 .nili (.t 14)),
      S 3001 (.ext (.t 3000) 1)])
     (.cond (.t 3001)
      (.seq (.ops [S 3002 (.mv (.t 14)),
       S 3000 (.mv (.v (.tup []))),
       S 3001 (.mv (.v (.tup [])))])
      (.exit 900001))
      (.ops [E (.nz (.v .junk))])))))))
     (.skip)))
    (.seq (.ops [S 15 (.mv (.t 0)),
     S 16 (.nz (.t 15)),
     S 17 (.fld 3 (.t 16)),
     S 18 (.ld false 1 (.t 17)),
     S 19 (.bin .add .none (.t 18) (xI 1)),
     S 20 (.nz (.t 15)),
     S 21 (.fld 3 (.t 20)),
     E (.st 1 (.t 21) (.t 19))])
    (.seq (.ops [S 22 (.mv (.t 0)),
     S 23 (.nz (.t 22)),
     S 24 (.fld 0 (.t 23)),
     S 25 (.fld 1 (.t 24)),
     S 26 (.ld false 1 (.t 25)),
     S 27 (.bin .add .none (.t 26) (xI 1)),
     S 28 (.nz (.t 22)),
     S 29 (.fld 0 (.t 28)),
     S 30 (.fld 1 (.t 29)),
     E (.st 1 (.t 30) (.t 27))])
    (.seq (.seq (.ops [S 31 (.mv (.t 1))])
    (.seq (.ops [S 3000 (.may (.t 31) []),
     S 3001 (.ext (.t 3000) 0)])
    (.cond (.t 3001)
     (.seq (.ops [S 3002 (.ext (.t 3000) 1),
      S 3000 (.mv (.v (.tup []))),
      S 3001 (.mv (.v (.tup [])))])
     (.exit 900001))
     (.seq (.ops [S 32 (.ext (.t 3000) 1),
      S 3000 (.mv (.v (.tup []))),
      S 3001 (.mv (.v (.tup [])))])
     (.seq (.ops [S 5 (.mv (.t 32))])
     (.skip))))))
    (.seq (.ops [S 33 (.mv (.t 0)),
     S 34 (.nz (.t 33)),
     S 35 (.fld 3 (.t 34)),
     S 36 (.ld false 1 (.t 35)),
     S 37 (.bin .sub .none (.t 36) (xI 1)),
     S 38 (.nz (.t 33)),
     S 39 (.fld 3 (.t 38)),
     E (.st 1 (.t 39) (.t 37))])
    (.seq (.ops [S 40 (.mv (.t 5)),
     S 4 (.mv (.t 40))])
    (.exit 900000)))))))))
  (.seq (.ops [S 3002 (.mv (.t 4))])
  (.seq (.ops [S 3001 (.mv (xB false))])
  (.exit 900002)))))
  (.ops [S 3001 (.mv (xB true))]))),
 [.tmp 3001, .tmp 3002], false, false, false⟩
def d_internal_bytealg_hashStr : DFn := ⟨1,
 .seq (.ops [S 2 (.mv (.v (.p (.int .u32 0)))),
  S 3 (.mv (.v (.p (.int .u32 0))))])
 (.seq (.ops [S 4 (.mv (.v (.p (.int .u32 0))))])
 (.seq (.seq (.ops [S 5 (.mv (xI 0))])
 (.block 0 (.loop [0, 4, 5] (.seq (.seq (.ops [S 9 (.mv (.t 5)),
  S 10 (.mv (.t 0)),
  S 11 (.len 1 (.t 10)),
  S 12 (.bin .lss .none (.t 9) (.t 11))])
  (.cond (.t 12)
   (.skip)
   (.exit 0)))
  (.seq (.block 1 (.ops [S 15 (.mv (.t 4)),
     S 16 (.bin .mul .none (.t 15) (.v (.p (.int .u32 16777619)))),
     S 17 (.mv (.t 0)),
     S 18 (.mv (.t 5)),
     S 19 (.ixs (.t 17) (.t 18)),
     S 20 (.conv .u32 (.t 19)),
     S 21 (.bin .add .none (.t 16) (.t 20)),
     S 4 (.mv (.t 21))]))
  (.ops [S 13 (.mv (.t 5)),
   S 14 (.bin .add .none (.t 13) (xI 1)),
   S 5 (.mv (.t 14))]))))))
 (.seq (.ops [S 6 (.mv (.v (.p (.int .u32 1)))),
  S 7 (.mv (.v (.p (.int .u32 16777619))))])
 (.seq (.seq (.ops [S 22 (.mv (.t 0)),
  S 23 (.len 1 (.t 22)),
  S 8 (.mv (.t 23))])
 (.block 2 (.loop [4, 6, 7, 8] (.seq (.seq (.ops [S 24 (.mv (.t 8)),
  S 25 (.bin .gtr .none (.t 24) (xI 0))])
  (.cond (.t 25)
   (.skip)
   (.exit 2)))
  (.seq (.block 3 (.seq (.seq (.ops [S 28 (.mv (.t 8)),
     S 29 (.bin .and .none (.t 28) (xI 1)),
     S 30 (.bin .neq .none (.t 29) (xI 0))])
   (.cond (.t 30)
    (.ops [S 31 (.mv (.t 6)),
     S 32 (.mv (.t 7)),
     S 33 (.bin .mul .none (.t 31) (.t 32)),
     S 6 (.mv (.t 33))])
    (.skip)))
   (.ops [S 34 (.mv (.t 7)),
    S 35 (.mv (.t 7)),
    S 36 (.bin .mul .none (.t 34) (.t 35)),
    S 7 (.mv (.t 36))])))
  (.ops [S 26 (.mv (.t 8)),
   S 27 (.bin .shr .none (.t 26) (.v (.p (.int .u64 1)))),
   S 8 (.mv (.t 27))]))))))
 (.seq (.ops [S 37 (.mv (.t 4)),
  S 38 (.mv (.t 6)),
  S 2 (.mv (.t 37)),
  S 3 (.mv (.t 38))])
 (.ret)))))),
 [.tmp 2, .tmp 3], false, true, false⟩
def progList : List (Nat × DFn) := [(n_sibyllaw03_QueryNest, d_sibyllaw03_QueryNest), (n_sibyllaw03_awake, d_sibyllaw03_awake), (n_query_Parse, d_query_Parse), (n_query_Name, d_query_Name), (n_query_Print, d_query_Print), (n_lex_Lex, d_lex_Lex), (n_Parse1_e, d_Parse1_e), (n_Parse1_p, d_Parse1_p), (n_query_parser_query, d_query_parser_query), (n_query_keyword, d_query_keyword), (n_query_printable, d_query_printable), (n_strings_Builder_WriteString, d_strings_Builder_WriteString), (n_query_text, d_query_text), (n_strconv_Itoa, d_strconv_Itoa), (n_strings_Builder_String, d_strings_Builder_String), (n_lex_skip, d_lex_skip), (n_lex_Each, d_lex_Each), (n_query_parser_must, d_query_parser_must), (n_query_parser_may, d_query_parser_may), (n_query_parser_elem, d_query_parser_elem), (n_query_parser_cond, d_query_parser_cond), (n_query_parser_kind, d_query_parser_kind), (n_strings_Contains, d_strings_Contains), (n_query_Sound, d_query_Sound), (n_query_text_1, d_query_text_1), (n_query_text_2, d_query_text_2), (n_query_part_in, d_query_part_in), (n_strconv_FormatInt, d_strconv_FormatInt), (n_internal_strconv_Itoa, d_internal_strconv_Itoa), (n_strings_IndexByte, d_strings_IndexByte), (n_lex_Each_1, d_lex_Each_1), (n_lex_next, d_lex_next), (n_query_parser_at, d_query_parser_at), (n_query_parser_is, d_query_parser_is), (n_query_parser_sum, d_query_parser_sum), (n_query_parser_pick, d_query_parser_pick), (n_query_row_now, d_query_row_now), (n_strings_Index, d_strings_Index), (n_query_takes, d_query_takes), (n_internal_strconv_FormatInt, d_internal_strconv_FormatInt), (n_internal_stringslite_IndexByte, d_internal_stringslite_IndexByte), (n_lex_next_1, d_lex_next_1), (n_lex_small, d_lex_small), (n_lex_digit, d_lex_digit), (n_lex_run, d_lex_run), (n_lex_number, d_lex_number), (n_lex_ends, d_lex_ends), (n_lex_letter, d_lex_letter), (n_lex_sign, d_lex_sign), (n_query_parser_chain, d_query_parser_chain), (n_query_parser_product, d_query_parser_product), (n_slices_IndexFunc_77, d_slices_IndexFunc_77), (n_internal_stringslite_Index, d_internal_stringslite_Index), (n_internal_strconv_small, d_internal_strconv_small), (n_query_parser_unary, d_query_parser_unary), (n_internal_bytealg_Cutover, d_internal_bytealg_Cutover), (n_internal_bytealg_IndexRabinKarp, d_internal_bytealg_IndexRabinKarp), (n_query_parser_within, d_query_parser_within), (n_internal_bytealg_hashStr, d_internal_bytealg_hashStr)]
end Dk.M
