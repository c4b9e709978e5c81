/- D's code of the functions, printed by a program of mine (DPrint). -/
import Derived.Test.YtfdghdmdjfgjiaaGreatDoorMk6
set_option linter.unusedVariables false
set_option linter.unusedSimpArgs false
set_option linter.unusedSectionVars false
namespace Dk.C
open Go Dk
abbrev n_ClientNil : Nat := 3
abbrev n_sibyllaw20_awake : Nat := 6
abbrev n_client_New : Nat := 7
abbrev n_call : Nat := 8
abbrev n_client_Client_Step : Nat := 9
abbrev n_client_Client_Done : Nat := 10
abbrev n_client_Client_Answer : Nat := 11
abbrev n_client_Client_Stamp : Nat := 12
abbrev n_log_New : Nat := 13
abbrev n_sibyllaw20_rest : Nat := 14
abbrev n_log_Log_Tail : Nat := 15
abbrev n_log_Log_Store : Nat := 16
abbrev n_store_Store_Used : Nat := 17
abbrev n_log_Log_Take : Nat := 19
abbrev n_log_Log_Fill : Nat := 20
abbrev n_log_Log_Post : Nat := 21
abbrev n_log_Log_Reply : Nat := 22
abbrev n_log_Log_Low : Nat := 23
abbrev n_client_Client_look : Nat := 24
abbrev n_client_Read : Nat := 25
abbrev n_client_Client_end : Nat := 26
abbrev n_rPrint : Nat := 27
abbrev n_Made : Nat := 28
abbrev n_Events : Nat := 29
abbrev n_log_Right : Nat := 30
abbrev n_store_New : Nat := 31
abbrev n_epoch_New : Nat := 32
abbrev n_ring_New : Nat := 33
abbrev n_ring_New_34 : Nat := 34
abbrev n_ring_Ring_Put : Nat := 35
abbrev n_log_Log_Cursor : Nat := 36
abbrev n_log_Log_Look : Nat := 37
abbrev n_ring_Ring_Put_38 : Nat := 38
abbrev n_log_Log_Collect : Nat := 39
abbrev n_ring_Ring_Drop : Nat := 40
abbrev n_ring_Ring_Drop_41 : Nat := 41
abbrev n_ring_Ring_Low : Nat := 42
abbrev n_log_Log_Config : Nat := 43
abbrev n_client_Client_room : Nat := 44
abbrev n_query_Parse : Nat := 45
abbrev n_Printable : Nat := 47
abbrev n_Text : Nat := 48
abbrev n_digits : Nat := 49
abbrev n_Next : Nat := 50
abbrev n_Codes : Nat := 51
abbrev n_ring_Ring_at : Nat := 52
abbrev n_ring_Ring_Get : Nat := 53
abbrev n_ring_Ring_at_54 : Nat := 54
abbrev n_log_Log_Collect_1 : Nat := 55
abbrev n_slices_ContainsFunc : Nat := 56
abbrev n_ring_Ring_Get_57 : Nat := 57
abbrev n_ring_Ring_Low_58 : Nat := 58
abbrev n_client_Client_slot : Nat := 59
abbrev n_client_Client_take : Nat := 60
abbrev n_lex_Lex : Nat := 61
abbrev n_query_parser_query : Nat := 10063
abbrev n_rName : Nat := 68
abbrev n_rSound : Nat := 69
abbrev n_rtakes : Nat := 70
abbrev n_held : Nat := 71
abbrev n_slices_IndexFunc : Nat := 72
abbrev n_store_Store_Take : Nat := 73
abbrev n_client_Client_fill : Nat := 74
abbrev n_client_Client_drop : Nat := 75
abbrev n_lex_skip : Nat := 76
abbrev n_lex_Each : Nat := 77
abbrev n_query_parser_must : Nat := 10078
abbrev n_query_parser_may : Nat := 79
abbrev n_query_parser_elem : Nat := 10080
abbrev n_query_parser_cond : Nat := 81
abbrev n_query_parser_kind : Nat := 10082
abbrev n_rLex : Nat := 98
abbrev n_rkeyword : Nat := 99
abbrev n_client_Client_wait : Nat := 100
abbrev n_store_Store_Add : Nat := 101
abbrev n_client_Client_free : Nat := 102
abbrev n_strings_IndexByte : Nat := 103
abbrev n_lex_Each_1 : Nat := 104
abbrev n_lex_next : Nat := 105
abbrev n_query_parser_at : Nat := 106
abbrev n_query_parser_is : Nat := 107
abbrev n_query_parser_pick : Nat := 109
abbrev n_query_row_now : Nat := 110
abbrev n_rEach : Nat := 125
abbrev n_log_Log_Answer : Nat := 126
abbrev n_store_Store_with : Nat := 127
abbrev n_store_Store_Add_1 : Nat := 128
abbrev n_store_Store_Free : Nat := 129
abbrev n_internal_stringslite_IndexByte : Nat := 130
abbrev n_lex_next_1 : Nat := 131
abbrev n_lex_small : Nat := 132
abbrev n_lex_digit : Nat := 133
abbrev n_lex_run : Nat := 134
abbrev n_lex_number : Nat := 135
abbrev n_lex_ends : Nat := 136
abbrev n_lex_letter : Nat := 137
abbrev n_lex_sign : Nat := 138
abbrev n_slices_IndexFunc_141 : Nat := 141
abbrev n_rblank : Nat := 155
abbrev n_rNext : Nat := 156
abbrev n_store_Store_Free_1 : Nat := 157
abbrev n_rsmall : Nat := 164
abbrev n_rgoes : Nat := 165
abbrev n_rdigit : Nat := 166
abbrev n_rnumber : Nat := 167
abbrev n_rletter : Nat := 168
abbrev n_rsign : Nat := 169
abbrev n_rcapital : Nat := 176
abbrev n_Parse1_e : Nat := 5062
abbrev n_Parse1_p : Nat := 13062
@[reducible] instance globs : Globs := ⟨fun _ => none⟩
/- sibyl/sibyllaw20.ClientNil -/
def d_ClientNil : DFn := ⟨1,
 .seq (.ops [S 1 (.box true 3 (.t 0)),
   S 2 (.mv (xB false))])
 (.seq (.ops [S 3 (.mv (.v .nilp))])
 (.seq (.ops [S 4 (.call n_sibyllaw20_awake []),
   S 5 (.mv (.t 4)),
   ⟨(some 6), .ld true 3 (.t 1), (some (5, true)), []⟩,
   ⟨(some 7), .call n_call [(.t 6)], (some (5, true)), []⟩,
   ⟨(some 8), .call n_client_New [(.v .nilp), (.t 7)], (some (5, true)), []⟩,
   ⟨(some 9), .bin .eql .ptr (.t 8) (.v .nilp), (some (5, true)), []⟩,
   S 10 (.pick (.t 5) (.t 9) (xB false)),
   S 11 (.mv (.t 10)),
   ⟨(some 12), .mv (.t 3), (some (11, true)), []⟩,
   ⟨(some 13), .call n_client_Client_Step [(.t 12)], (some (11, true)), []⟩,
   ⟨(some 14), .un .not (.t 13), (some (11, true)), []⟩,
   S 15 (.pick (.t 11) (.t 14) (xB false)),
   S 16 (.mv (.t 15)),
   ⟨(some 17), .mv (.t 3), (some (16, true)), []⟩,
   ⟨(some 18), .call n_client_Client_Done [(.t 17)], (some (16, true)), []⟩,
   S 19 (.pick (.t 16) (.t 18) (xB false)),
   S 20 (.mv (.t 19)),
   ⟨(some 21), .mv (.t 3), (some (20, true)), []⟩,
   ⟨(some 22), .call n_client_Client_Answer [(.t 21)], (some (20, true)), []⟩,
   ⟨(some 23), .fget 0 1 false (.t 22), (some (20, true)), []⟩,
   ⟨(some 24), .bin .eql .none (.t 23) (xI 1), (some (20, true)), []⟩,
   S 25 (.pick (.t 20) (.t 24) (xB false)),
   S 26 (.mv (.t 25)),
   ⟨(some 27), .mv (.t 3), (some (26, true)), []⟩,
   ⟨(some 28), .call n_client_Client_Stamp [(.t 27)], (some (26, true)), []⟩,
   ⟨(some 29), .bin .eql .none (.t 28) (xI (-1)), (some (26, true)), []⟩,
   S 30 (.pick (.t 26) (.t 29) (xB false)),
   S 2 (.mv (.t 30))])
 (.ret))),
 [.tmp 2], false, true, false⟩
/- sibyl/sibyllaw20.awake -/
def d_sibyllaw20_awake : DFn := ⟨0,
 .seq (.ops [S 0 (.mv (xB false))])
 (.seq (.ops [S 5 (.build [(eI 0), (eI 0), (eI 0), (eI 0), (eI 0), (eI 0), (eI 0)] [(0, 1, (xI 1)), (1, 1, (xI 1)), (2, 1, (xI 1)), (3, 1, (xI 1)), (4, 1, (xI 1)), (5, 1, (xI 1)), (6, 1, (xI 9))]),
   S 6 (.call n_log_New [(.t 5)]),
   S 1 (.mv (.t 6))])
 (.seq (.ops [S 7 (.mv (.t 1)),
   S 8 (.build [(eI 0), (eI 0), (eI 0), (eI 0), (eI 0), (eI 0), (eI 0), (.p (.str (bs []))), (eI 0), (eI 0)] [(0, 1, (xI 1))]),
   S 9 (.call n_client_New [(.t 7), (.t 8)]),
   S 2 (.mv (.t 9))])
 (.seq (.ops [S 3 (.mv (xI 0))])
 (.seq (.block 0 (.loop [1, 2, 3] (.seq (.seq (.ops [S 10 (.mv (.t 3)),
     S 11 (.bin .lss .none (.t 10) (xI 9)),
     S 12 (.mv (.t 11)),
     ⟨(some 13), .mv (.t 2), (some (12, true)), []⟩,
     ⟨(some 14), .call n_client_Client_Step [(.t 13)], (some (12, true)), []⟩,
     S 15 (.pick (.t 12) (.t 14) (xB false))])
   (.cond (.t 15)
    (.skip)
    (.exit 0)))
   (.block 1 (.ops [S 16 (.mv (.t 3)),
      S 17 (.bin .add .none (.t 16) (xI 1)),
      S 3 (.mv (.t 17))])))))
 (.seq (.ops [S 18 (.mv (.t 1)),
   S 19 (.build [(eI 0), (eI 0), (eI 0), (eI 0), (eI 0), (eI 0), (eI 0), (.p (.str (bs []))), (eI 0), (eI 0)] [(0, 1, (xI 2)), (7, 1, (.v (.p (.str (bs [115, 101, 113])))))]),
   S 20 (.call n_client_New [(.t 18), (.t 19)]),
   S 4 (.mv (.t 20))])
 (.seq (.ops [S 21 (.mv (.t 3)),
   S 22 (.bin .eql .none (.t 21) (xI 5)),
   S 23 (.mv (.t 22)),
   ⟨(some 24), .mv (.t 2), (some (23, true)), []⟩,
   ⟨(some 25), .call n_client_Client_Done [(.t 24)], (some (23, true)), []⟩,
   S 26 (.pick (.t 23) (.t 25) (xB false)),
   S 27 (.mv (.t 26)),
   ⟨(some 28), .mv (.t 2), (some (27, true)), []⟩,
   ⟨(some 29), .call n_client_Client_Answer [(.t 28)], (some (27, true)), []⟩,
   ⟨(some 30), .fget 0 1 false (.t 29), (some (27, true)), []⟩,
   ⟨(some 31), .bin .eql .none (.t 30) (xI 0), (some (27, true)), []⟩,
   S 32 (.pick (.t 27) (.t 31) (xB false)),
   S 33 (.mv (.t 32)),
   ⟨(some 34), .mv (.t 2), (some (33, true)), []⟩,
   ⟨(some 35), .call n_client_Client_Stamp [(.t 34)], (some (33, true)), []⟩,
   ⟨(some 36), .bin .eql .none (.t 35) (xI 0), (some (33, true)), []⟩,
   S 37 (.pick (.t 33) (.t 36) (xB false)),
   S 38 (.mv (.t 37)),
   ⟨(some 39), .mv (.t 4), (some (38, true)), []⟩,
   ⟨(some 40), .call n_client_Client_Done [(.t 39)], (some (38, true)), []⟩,
   S 41 (.pick (.t 38) (.t 40) (xB false)),
   S 42 (.mv (.t 41)),
   ⟨(some 43), .mv (.t 4), (some (42, true)), []⟩,
   ⟨(some 44), .call n_client_Client_Answer [(.t 43)], (some (42, true)), []⟩,
   ⟨(some 45), .fget 0 1 false (.t 44), (some (42, true)), []⟩,
   ⟨(some 46), .bin .eql .none (.t 45) (xI 11), (some (42, true)), []⟩,
   S 47 (.pick (.t 42) (.t 46) (xB false)),
   S 48 (.mv (.t 47)),
   ⟨(some 49), .mv (.t 4), (some (48, true)), []⟩,
   ⟨(some 50), .call n_client_Client_Answer [(.t 49)], (some (48, true)), []⟩,
   ⟨(some 51), .fget 1 1 false (.t 50), (some (48, true)), []⟩,
   ⟨(some 52), .bin .eql .none (.t 51) (xI 3), (some (48, true)), []⟩,
   S 53 (.pick (.t 48) (.t 52) (xB false)),
   S 54 (.mv (.t 53)),
   ⟨(some 55), .mv (.t 4), (some (54, true)), []⟩,
   ⟨(some 56), .call n_client_Client_Stamp [(.t 55)], (some (54, true)), []⟩,
   ⟨(some 57), .bin .eql .none (.t 56) (xI (-1)), (some (54, true)), []⟩,
   S 58 (.pick (.t 54) (.t 57) (xB false)),
   S 0 (.mv (.t 58))])
 (.ret))))))),
 [.tmp 0], false, true, false⟩
/- sibyl/client.New -/
def d_client_New : DFn := ⟨2,
 .seq (.ops [S 3 (.box true 10 (.t 1)),
   S 4 (.mv (.v .nilp))])
 (.seq (.seq (.ops [S 7 (.mv (.t 0)),
   S 8 (.bin .eql .ptr (.t 7) (.v .nilp))])
 (.cond (.t 8)
  (.seq (.ops [S 4 (.mv (.v .nilp))])
  (.ret))
  (.skip)))
 (.seq (.ops [S 9 (.mv (.t 0)),
   S 10 (.ld true 10 (.t 3)),
   S 11 (.build [.nilp, (eI 0), (eI 0), (eI 0), (eI 0), (eI 0), (eI 0), (eI 0), (.p (.str (bs []))), (eI 0), (eI 0), (.full []), (eI 0), (eB false), .nilf, (eI 0), (eI 0), (eB false), (eI 0), (eI 0), (eI 0), (eI 0), (.full [])] [(0, 1, (.t 9)), (1, 10, (.t 10)), (16, 1, (xI (-1)))]),
   S 12 (.box true 23 (.t 11)),
   S 5 (.mv (.t 12))])
 (.seq (.ops [S 13 (.mv (.t 5)),
   S 14 (.mv (.t 5)),
   S 15 (.mkf (.func n_client_Client_look) [(.t 14)] []),
   S 16 (.nz (.t 13)),
   S 17 (.fld 14 (.t 16)),
   E (.st 1 (.t 17) (.t 15))])
 (.seq (.seq (.ops [S 18 (.fld 0 (.t 3)),
   S 19 (.ld false 1 (.t 18))])
 (.block 0 (.seq (.block 4 (.seq (.block 3 (.seq (.block 2 (.seq (.block 1 (.seq (.seq (.seq (.ops [S 21 (.bin .eql .none (.t 19) (xI 2)),
        S 20 (.mv (.t 21))])
      (.cond (.t 20)
       (.exit 1)
       (.skip)))
      (.seq (.seq (.seq (.ops [S 23 (.bin .eql .none (.t 19) (xI 1)),
        S 22 (.mv (.t 23))])
      (.cond (.t 22)
       (.skip)
       (.seq (.ops [S 24 (.bin .eql .none (.t 19) (xI 3)),
         S 22 (.mv (.t 24))])
       (.cond (.t 22)
        (.skip)
        (.ops [S 25 (.bin .eql .none (.t 19) (xI 5)),
          S 22 (.mv (.t 25))])))))
      (.cond (.t 22)
       (.exit 2)
       (.skip)))
      (.seq (.ops [S 27 (.bin .eql .none (.t 19) (xI 4)),
        S 26 (.mv (.t 27))])
      (.cond (.t 26)
       (.exit 3)
       (.skip)))))
      (.exit 4)))
     (.seq (.seq (.ops [S 28 (.fld 7 (.t 3)),
       S 29 (.ld false 1 (.t 28)),
       S 30 (.call n_client_Read [(.t 29)]),
       S 6 (.new true [(.full []), (eI 0), (eB false), (eI 0), (eI 0)]),
       E (.st 5 (.t 6) (.t 30))])
     (.seq (.ops [S 31 (.mv (.t 5)),
       S 32 (.fld 0 (.t 6)),
       S 33 (.ld true 3 (.t 32)),
       S 34 (.nz (.t 31)),
       S 35 (.fld 11 (.t 34)),
       E (.st 3 (.t 35) (.t 33))])
     (.seq (.ops [S 36 (.fld 3 (.t 6)),
       S 37 (.ld false 1 (.t 36)),
       S 38 (.bin .neq .none (.t 37) (xI 0))])
     (.cond (.t 38)
      (.ops [S 39 (.mv (.t 5)),
        S 40 (.fld 3 (.t 6)),
        S 41 (.ld false 1 (.t 40)),
        S 42 (.fld 4 (.t 6)),
        S 43 (.ld false 1 (.t 42)),
        S 44 (.call n_client_Client_end [(.t 39), (.t 41), (.t 43)])])
      (.skip)))))
     (.exit 0))))
    (.exit 0)))
   (.seq (.ops [S 45 (.fld 9 (.t 3)),
     S 46 (.ld false 1 (.t 45)),
     S 47 (.bin .geq .none (.t 46) (xI 1))])
   (.cond (.t 47)
    (.exit 0)
    (.skip)))))
  (.seq (.ops [S 48 (.mv (.t 5)),
    S 49 (.call n_client_Client_end [(.t 48), (xI 1), (xI 0)])])
  (.exit 0)))))
 (.seq (.ops [S 50 (.mv (.t 5)),
   S 4 (.mv (.t 50))])
 (.ret)))))),
 [.tmp 4], false, false, false⟩
/- (sibyl/sibyllaw20.Ask).call -/
def d_call : DFn := ⟨1,
 .seq (.ops [S 1 (.box true 3 (.t 0)),
   S 2 (.new true [(eI 0), (eI 0), (eI 0), (eI 0), (eI 0), (eI 0), (eI 0), (.p (.str (bs []))), (eI 0), (eI 0)])])
 (.seq (.seq (.ops [S 4 (.fld 0 (.t 1)),
   S 5 (.ld false 1 (.t 4)),
   S 6 (.call n_sibyllaw20_rest [(.t 5), (xI 8)])])
 (.block 0 (.seq (.ops [S 8 (.bin .eql .none (.t 6) (xI 3)),
    S 7 (.mv (.t 8))])
  (.cond (.t 7)
   (.seq (.ops [S 9 (.fld 2 (.t 1)),
     S 10 (.ld false 1 (.t 9)),
     S 11 (.call n_Made [(.t 10)]),
     S 12 (.call n_rPrint [(.t 11)]),
     S 3 (.mv (.t 12))])
   (.seq (.seq (.ops [S 13 (.fld 1 (.t 1)),
     S 14 (.ld false 1 (.t 13)),
     S 15 (.call n_sibyllaw20_rest [(.t 14), (xI 6)]),
     S 16 (.bin .eql .none (.t 15) (xI 0))])
   (.cond (.t 16)
    (.ops [S 17 (.mv (.t 3)),
      S 18 (.bin .add .none (.t 17) (.v (.p (.str (bs [32, 98, 121]))))),
      S 3 (.mv (.t 18))])
    (.skip)))
   (.seq (.ops [S 19 (.mv (.t 3)),
     S 20 (.build [(eI 0), (eI 0), (eI 0), (eI 0), (eI 0), (eI 0), (eI 0), (.p (.str (bs []))), (eI 0), (eI 0)] [(0, 1, (xI 2)), (7, 1, (.t 19))]),
     E (.st 10 (.t 2) (.t 20))])
   (.ret))))
   (.seq (.ops [S 22 (.bin .eql .none (.t 6) (xI 4)),
     S 21 (.mv (.t 22))])
   (.cond (.t 21)
    (.seq (.ops [S 23 (.fld 1 (.t 1)),
      S 24 (.ld false 1 (.t 23)),
      S 25 (.build [(eI 0), (eI 0), (eI 0), (eI 0), (eI 0), (eI 0), (eI 0), (.p (.str (bs []))), (eI 0), (eI 0)] [(0, 1, (xI 3)), (8, 1, (.t 24))]),
      E (.st 10 (.t 2) (.t 25))])
    (.ret))
    (.seq (.ops [S 27 (.bin .eql .none (.t 6) (xI 5)),
      S 26 (.mv (.t 27))])
    (.cond (.t 26)
     (.seq (.ops [S 28 (.fld 1 (.t 1)),
       S 29 (.ld false 1 (.t 28)),
       S 30 (.fld 1 (.t 1)),
       S 31 (.ld false 1 (.t 30)),
       ⟨(some 32), .call n_sibyllaw20_rest [(.t 31), (xI 4)], none, [(29, .ld false 1 (.t 28), none)]⟩,
       S 33 (.bin .sub .none (.t 32) (xI 1)),
       S 34 (.build [(eI 0), (eI 0), (eI 0), (eI 0), (eI 0), (eI 0), (eI 0), (.p (.str (bs []))), (eI 0), (eI 0)] [(0, 1, (xI 4)), (8, 1, (.t 29)), (9, 1, (.t 33))]),
       E (.st 10 (.t 2) (.t 34))])
     (.ret))
     (.seq (.ops [S 36 (.bin .eql .none (.t 6) (xI 6)),
       S 35 (.mv (.t 36))])
     (.cond (.t 35)
      (.seq (.seq (.ops [S 37 (.fld 1 (.t 1)),
        S 38 (.ld false 1 (.t 37)),
        S 39 (.call n_sibyllaw20_rest [(.t 38), (xI 3)]),
        S 40 (.bin .eql .none (.t 39) (xI 0))])
      (.cond (.t 40)
       (.seq (.ops [S 41 (.build [(eI 0), (eI 0), (eI 0), (eI 0), (eI 0), (eI 0), (eI 0), (.p (.str (bs []))), (eI 0), (eI 0)] [(0, 1, (xI 5))]),
         E (.st 10 (.t 2) (.t 41))])
       (.ret))
       (.skip)))
      (.seq (.ops [S 42 (.build [(eI 0), (eI 0), (eI 0), (eI 0), (eI 0), (eI 0), (eI 0), (.p (.str (bs []))), (eI 0), (eI 0)] [(0, 1, (xI 4)), (9, 1, (xI 2))]),
        E (.st 10 (.t 2) (.t 42))])
      (.ret)))
      (.seq (.ops [S 44 (.bin .eql .none (.t 6) (xI 7)),
        S 43 (.mv (.t 44))])
      (.cond (.t 43)
       (.seq (.ops [S 45 (.fld 1 (.t 1)),
         S 46 (.ld false 1 (.t 45)),
         S 47 (.build [(eI 0), (eI 0), (eI 0), (eI 0), (eI 0), (eI 0), (eI 0), (.p (.str (bs []))), (eI 0), (eI 0)] [(0, 1, (.t 46))]),
         E (.st 10 (.t 2) (.t 47))])
       (.ret))
       (.skip)))))))))))))
 (.seq (.ops [S 48 (.fld 1 (.t 1)),
   S 49 (.ld false 1 (.t 48)),
   S 50 (.lit 1 false [[(eI 0)]] [(0, (.t 49))]),
   S 51 (.call n_Events [(.t 50), (xI 1)]),
   S 52 (.ixa 6 (.t 51) (xI 0)),
   S 53 (.ld true 6 (.t 52)),
   S 54 (.build [(eI 0), (eI 0), (eI 0), (eI 0), (eI 0), (eI 0), (eI 0), (.p (.str (bs []))), (eI 0), (eI 0)] [(0, 1, (xI 1)), (1, 6, (.t 53))]),
   E (.st 10 (.t 2) (.t 54))])
 (.ret))),
 [.cell 2 true 10], false, true, false⟩
/- (*sibyl/client.Client).Step -/
def d_client_Client_Step : DFn := ⟨1,
 .seq (.ops [S 2 (.mv (xB false))])
 (.seq (.seq (.ops [S 3 (.mv (.t 0)),
   S 4 (.call n_client_Client_Done [(.t 3)])])
 (.cond (.t 4)
  (.seq (.ops [S 2 (.mv (xB false))])
  (.ret))
  (.skip)))
 (.seq (.ops [S 5 (.mv (.t 0)),
   S 6 (.nz (.t 5)),
   S 7 (.fld 14 (.t 6)),
   S 8 (.ld false 1 (.t 7)),
   S 9 (.callv (.t 8) [])])
 (.seq (.ops [S 2 (.mv (xB true))])
 (.ret)))),
 [.tmp 2], false, false, false⟩
/- (*sibyl/client.Client).Done -/
def d_client_Client_Done : DFn := ⟨1,
 .seq (.ops [S 2 (.mv (xB false))])
 (.seq (.ops [S 3 (.mv (.t 0)),
   S 4 (.bin .eql .ptr (.t 3) (.v .nilp)),
   S 5 (.mv (.t 4)),
   ⟨(some 6), .mv (.t 0), (some (5, false)), []⟩,
   ⟨(some 7), .nz (.t 6), (some (5, false)), []⟩,
   ⟨(some 8), .fld 14 (.t 7), (some (5, false)), []⟩,
   ⟨(some 9), .ld false 1 (.t 8), (some (5, false)), []⟩,
   ⟨(some 10), .bin .eql .fn (.t 9) (.v .nilf), (some (5, false)), []⟩,
   S 11 (.pick (.t 5) (xB true) (.t 10)),
   S 2 (.mv (.t 11))])
 (.ret)),
 [.tmp 2], false, false, false⟩
/- (*sibyl/client.Client).Answer -/
def d_client_Client_Answer : DFn := ⟨1,
 .seq (.ops [S 2 (.new true [(eI 0), (eI 0), (.full [])])])
 (.seq (.seq (.ops [S 3 (.mv (.t 0)),
   S 4 (.bin .eql .ptr (.t 3) (.v .nilp))])
 (.cond (.t 4)
  (.seq (.ops [S 5 (.build [(eI 0), (eI 0), (.full [])] [(0, 1, (xI 1))]),
    E (.st 3 (.t 2) (.t 5))])
  (.ret))
  (.skip)))
 (.seq (.ops [S 6 (.mv (.t 0)),
   S 7 (.nz (.t 6)),
   S 8 (.fld 20 (.t 7)),
   S 9 (.ld true 3 (.t 8)),
   E (.st 3 (.t 2) (.t 9))])
 (.ret))),
 [.cell 2 true 3], false, false, false⟩
/- (*sibyl/client.Client).Stamp -/
def d_client_Client_Stamp : DFn := ⟨1,
 .seq (.ops [S 2 (.mv (xI 0))])
 (.seq (.seq (.ops [S 3 (.mv (.t 0)),
   S 4 (.bin .eql .ptr (.t 3) (.v .nilp))])
 (.cond (.t 4)
  (.seq (.ops [S 2 (.mv (xI (-1)))])
  (.ret))
  (.skip)))
 (.seq (.ops [S 5 (.mv (.t 0)),
   S 6 (.nz (.t 5)),
   S 7 (.fld 16 (.t 6)),
   S 8 (.ld false 1 (.t 7)),
   S 2 (.mv (.t 8))])
 (.ret))),
 [.tmp 2], false, false, false⟩
/- sibyl/log.New -/
def d_log_New : DFn := ⟨1,
 .seq (.ops [S 1 (.box true 7 (.t 0)),
   S 2 (.mv (.v .nilp))])
 (.seq (.seq (.ops [S 4 (.ld true 7 (.t 1)),
   S 5 (.call n_log_Right [(.t 4)]),
   S 6 (.un .not (.t 5))])
 (.cond (.t 6)
  (.seq (.ops [S 2 (.mv (.v .nilp))])
  (.ret))
  (.skip)))
 (.seq (.ops [S 7 (.ld true 7 (.t 1)),
   S 8 (.fld 2 (.t 1)),
   S 9 (.ld false 1 (.t 8)),
   S 11 (.fld 0 (.t 1)),
   S 12 (.ld false 1 (.t 11)),
   S 13 (.bin .add .none (.t 12) (xI 1)),
   S 16 (.fld 1 (.t 1)),
   S 17 (.ld false 1 (.t 16)),
   S 19 (.fld 0 (.t 1)),
   S 20 (.ld false 1 (.t 19)),
   S 21 (.mks 1 false 8 [(eI 0)] (.t 20) (.t 20)),
   S 22 (.mkmap),
   ⟨(some 10), .call n_store_New [(.t 9)], none, [(20, .ld false 1 (.t 19), none), (17, .ld false 1 (.t 16), none), (12, .ld false 1 (.t 11), none), (7, .ld true 7 (.t 1), none)]⟩,
   ⟨(some 14), .call n_epoch_New [(.t 13)], none, [(20, .ld false 1 (.t 19), none), (17, .ld false 1 (.t 16), none), (7, .ld true 7 (.t 1), none)]⟩,
   S 15 (.build [(eI 0), (eI 0), (eI 0), (eI 0), (eI 0), (eI 0), (eI 0), .nilp, .nilp] [(0, 7, (.t 7)), (7, 1, (.t 10)), (8, 1, (.t 14))]),
   ⟨(some 18), .call n_ring_New [(.t 17)], none, [(20, .ld false 1 (.t 19), none), (7, .ld true 7 (.t 1), none)]⟩,
   S 23 (.build [(eI 0), (eI 0), (eI 0), (eI 0), (eI 0), (eI 0), (eI 0), .nilp, .nilp, (eI 0), (eB false), .nilp, (.full []), (.full []), .nilmap] [(0, 9, (.t 15)), (11, 1, (.t 18)), (12, 1, (.t 21)), (14, 1, (.t 22))]),
   S 24 (.box true 15 (.t 23)),
   S 3 (.mv (.t 24))])
 (.seq (.seq (.ops [S 25 (.fld 0 (.t 1)),
   S 26 (.ld false 1 (.t 25)),
   S 27 (.mv (xI 0))])
 (.block 0 (.loop [1, 3, 26, 27] (.seq (.ops [S 28 (.bin .lss .none (.t 27) (.t 26))])
   (.seq (.cond (.t 28)
    (.skip)
    (.exit 0))
   (.seq (.block 1 (.ops [S 29 (.mv (.t 3)),
      S 30 (.mv (.t 3)),
      S 31 (.nz (.t 30)),
      S 32 (.fld 13 (.t 31)),
      S 33 (.ld false 1 (.t 32)),
      S 34 (.fld 1 (.t 1)),
      S 35 (.ld false 1 (.t 34)),
      ⟨(some 36), .call n_ring_New_34 [(.t 35)], none, [(33, .ld false 1 (.t 32), none)]⟩,
      S 37 (.lit 1 false [[.nilp]] [(0, (.t 36))]),
      S 38 (.app 1 false 8 (.t 33) (.t 37)),
      S 39 (.nz (.t 29)),
      S 40 (.fld 13 (.t 39)),
      E (.st 1 (.t 40) (.t 38))]))
   (.ops [S 41 (.bin .add .none (.t 27) (xI 1)),
     S 27 (.mv (.t 41))])))))))
 (.seq (.ops [S 42 (.mv (.t 3)),
   S 2 (.mv (.t 42))])
 (.ret))))),
 [.tmp 2], false, false, false⟩
/- sibyl/sibyllaw20.rest -/
def d_sibyllaw20_rest : DFn := ⟨2,
 .seq (.ops [S 4 (.mv (xI 0))])
 (.seq (.ops [S 5 (.mv (.t 0)),
   S 6 (.mv (.t 1)),
   S 7 (.bin .rem .none (.t 5) (.t 6)),
   S 8 (.mv (.t 1)),
   S 9 (.bin .add .none (.t 7) (.t 8)),
   S 10 (.mv (.t 1)),
   S 11 (.bin .rem .none (.t 9) (.t 10)),
   S 4 (.mv (.t 11))])
 (.ret)),
 [.tmp 4], false, true, false⟩
/- (*sibyl/log.Log).Tail -/
def d_log_Log_Tail : DFn := ⟨1,
 .seq (.ops [S 2 (.mv (xI 0)),
   S 3 (.mv (xB false))])
 (.seq (.seq (.ops [S 4 (.mv (.t 0)),
   S 5 (.bin .eql .ptr (.t 4) (.v .nilp))])
 (.cond (.t 5)
  (.seq (.ops [S 2 (.mv (xI 0)),
    S 3 (.mv (xB false))])
  (.ret))
  (.skip)))
 (.seq (.ops [S 6 (.mv (.t 0)),
   S 7 (.nz (.t 6)),
   S 8 (.fld 9 (.t 7)),
   S 9 (.ld false 1 (.t 8)),
   S 10 (.mv (.t 0)),
   S 11 (.nz (.t 10)),
   S 12 (.fld 10 (.t 11)),
   S 13 (.ld false 1 (.t 12)),
   S 2 (.mv (.t 9)),
   S 3 (.mv (.t 13))])
 (.ret))),
 [.tmp 2, .tmp 3], false, false, false⟩
/- (*sibyl/log.Log).Store -/
def d_log_Log_Store : DFn := ⟨1,
 .seq (.ops [S 2 (.mv (.v .nilp))])
 (.seq (.seq (.ops [S 3 (.mv (.t 0)),
   S 4 (.bin .eql .ptr (.t 3) (.v .nilp))])
 (.cond (.t 4)
  (.seq (.ops [S 2 (.mv (.v .nilp))])
  (.ret))
  (.skip)))
 (.seq (.ops [S 5 (.mv (.t 0)),
   S 6 (.nz (.t 5)),
   S 7 (.fld 0 (.t 6)),
   S 8 (.fld 7 (.t 7)),
   S 9 (.ld false 1 (.t 8)),
   S 2 (.mv (.t 9))])
 (.ret))),
 [.tmp 2], false, false, false⟩
/- (*sibyl/store.Store).Used -/
def d_store_Store_Used : DFn := ⟨1,
 .seq (.ops [S 2 (.mv (xI 0))])
 (.seq (.seq (.ops [S 3 (.mv (.t 0)),
   S 4 (.bin .eql .ptr (.t 3) (.v .nilp))])
 (.cond (.t 4)
  (.seq (.ops [S 2 (.mv (xI 0))])
  (.ret))
  (.skip)))
 (.seq (.ops [S 5 (.mv (.t 0)),
   S 6 (.nz (.t 5)),
   S 7 (.fld 1 (.t 6)),
   S 8 (.ld false 1 (.t 7)),
   S 2 (.mv (.t 8))])
 (.ret))),
 [.tmp 2], false, false, false⟩
/- (*sibyl/log.Log).Take -/
def d_log_Log_Take : DFn := ⟨3,
 .seq (.ops [S 6 (.mv (xB false))])
 (.seq (.seq (.ops [S 7 (.mv (.t 0)),
   S 8 (.bin .eql .ptr (.t 7) (.v .nilp)),
   S 9 (.mv (.t 8)),
   ⟨(some 10), .mv (.t 1), (some (9, false)), []⟩,
   ⟨(some 11), .mv (.t 0), (some (9, false)), []⟩,
   ⟨(some 12), .nz (.t 11), (some (9, false)), []⟩,
   ⟨(some 13), .fld 9 (.t 12), (some (9, false)), []⟩,
   ⟨(some 14), .ld false 1 (.t 13), (some (9, false)), []⟩,
   ⟨(some 15), .bin .neq .none (.t 10) (.t 14), (some (9, false)), []⟩,
   S 16 (.pick (.t 9) (xB true) (.t 15)),
   S 17 (.mv (.t 16)),
   ⟨(some 18), .mv (.t 1), (some (17, false)), []⟩,
   ⟨(some 19), .mv (.t 0), (some (17, false)), []⟩,
   ⟨(some 20), .nz (.t 19), (some (17, false)), []⟩,
   ⟨(some 21), .fld 0 (.t 20), (some (17, false)), []⟩,
   ⟨(some 22), .fld 0 (.t 21), (some (17, false)), []⟩,
   ⟨(some 23), .fld 6 (.t 22), (some (17, false)), []⟩,
   ⟨(some 24), .ld false 1 (.t 23), (some (17, false)), []⟩,
   ⟨(some 25), .bin .eql .none (.t 18) (.t 24), (some (17, false)), []⟩,
   S 26 (.pick (.t 17) (xB true) (.t 25)),
   S 27 (.mv (.t 26)),
   ⟨(some 28), .mv (.t 1), (some (27, false)), []⟩,
   ⟨(some 29), .mv (.t 0), (some (27, false)), []⟩,
   ⟨(some 32), .mv (.t 0), (some (27, false)), []⟩,
   ⟨(some 33), .nz (.t 32), (some (27, false)), []⟩,
   ⟨(some 34), .fld 0 (.t 33), (some (27, false)), []⟩,
   ⟨(some 35), .fld 0 (.t 34), (some (27, false)), []⟩,
   ⟨(some 36), .fld 1 (.t 35), (some (27, false)), []⟩,
   ⟨(some 37), .ld false 1 (.t 36), (some (27, false)), []⟩,
   ⟨(some 30), .call n_log_Log_Low [(.t 29)], (some (27, false)), [(37, .ld false 1 (.t 36), (some (27, false)))]⟩,
   ⟨(some 31), .bin .sub .none (.t 28) (.t 30), (some (27, false)), []⟩,
   ⟨(some 38), .bin .geq .none (.t 31) (.t 37), (some (27, false)), []⟩,
   S 39 (.pick (.t 27) (xB true) (.t 38)),
   S 40 (.mv (.t 39)),
   ⟨(some 41), .mv (.t 2), (some (40, false)), []⟩,
   ⟨(some 42), .mv (.t 41), (some (40, false)), []⟩,
   ⟨(some 43), .mv (.t 0), (some (42, true)), []⟩,
   ⟨(some 44), .nz (.t 43), (some (42, true)), []⟩,
   ⟨(some 45), .fld 10 (.t 44), (some (42, true)), []⟩,
   ⟨(some 46), .ld false 1 (.t 45), (some (42, true)), []⟩,
   ⟨(some 47), .pick (.t 42) (.t 46) (xB false), (some (40, false)), []⟩,
   S 48 (.pick (.t 40) (xB true) (.t 47))])
 (.cond (.t 48)
  (.seq (.ops [S 6 (.mv (xB false))])
  (.ret))
  (.skip)))
 (.seq (.ops [S 49 (.mv (.t 0)),
   S 50 (.nz (.t 49)),
   S 51 (.fld 9 (.t 50)),
   S 52 (.ld false 1 (.t 51)),
   S 53 (.bin .add .none (.t 52) (xI 1)),
   S 54 (.nz (.t 49)),
   S 55 (.fld 9 (.t 54)),
   E (.st 1 (.t 55) (.t 53))])
 (.seq (.ops [S 56 (.mv (.t 0)),
   S 57 (.mv (.t 0)),
   S 58 (.nz (.t 57)),
   S 59 (.fld 10 (.t 58)),
   S 60 (.ld false 1 (.t 59)),
   S 61 (.mv (.t 60)),
   ⟨(some 62), .mv (.t 2), (some (61, false)), []⟩,
   S 63 (.pick (.t 61) (xB true) (.t 62)),
   S 64 (.nz (.t 56)),
   S 65 (.fld 10 (.t 64)),
   E (.st 1 (.t 65) (.t 63))])
 (.seq (.ops [S 6 (.mv (xB true))])
 (.ret))))),
 [.tmp 6], false, false, false⟩
/- (*sibyl/log.Log).Fill -/
def d_log_Log_Fill : DFn := ⟨3,
 .seq (.ops [S 5 (.box true 14 (.t 2)),
   S 6 (.mv (xB false))])
 (.seq (.ops [S 7 (.mv (.t 0)),
   S 8 (.bin .neq .ptr (.t 7) (.v .nilp)),
   S 9 (.mv (.t 8)),
   ⟨(some 10), .mv (.t 1), (some (9, true)), []⟩,
   ⟨(some 11), .mv (.t 0), (some (9, true)), []⟩,
   ⟨(some 12), .nz (.t 11), (some (9, true)), []⟩,
   ⟨(some 13), .fld 9 (.t 12), (some (9, true)), []⟩,
   ⟨(some 14), .ld false 1 (.t 13), (some (9, true)), []⟩,
   ⟨(some 15), .bin .lss .none (.t 10) (.t 14), (some (9, true)), []⟩,
   S 16 (.pick (.t 9) (.t 15) (xB false)),
   S 17 (.mv (.t 16)),
   ⟨(some 18), .mv (.t 0), (some (17, true)), []⟩,
   ⟨(some 19), .nz (.t 18), (some (17, true)), []⟩,
   ⟨(some 20), .fld 11 (.t 19), (some (17, true)), []⟩,
   ⟨(some 21), .ld false 1 (.t 20), (some (17, true)), []⟩,
   ⟨(some 22), .mv (.t 1), (some (17, true)), []⟩,
   ⟨(some 23), .ld true 14 (.t 5), (some (17, true)), []⟩,
   ⟨(some 24), .call n_ring_Ring_Put [(.t 21), (.t 22), (.t 23)], (some (17, true)), []⟩,
   S 25 (.pick (.t 17) (.t 24) (xB false)),
   S 6 (.mv (.t 25))])
 (.ret)),
 [.tmp 6], false, false, false⟩
/- (*sibyl/log.Log).Post -/
def d_log_Log_Post : DFn := ⟨3,
 .seq (.ops [S 5 (.box true 4 (.t 2)),
   S 6 (.mv (xB false))])
 (.seq (.ops [S 10 (.mv (.t 0)),
   S 11 (.mv (.t 1)),
   S 12 (.call n_log_Log_Cursor [(.t 10), (.t 11)]),
   S 7 (.mv (.t 12))])
 (.seq (.ops [S 14 (.mv (.t 0)),
   S 15 (.mv (.t 7)),
   S 16 (.call n_log_Log_Look [(.t 14), (.t 15)]),
   S 13 (.mv (.t 16)),
   S 17 (.ext (.t 13) 0),
   S 18 (.ext (.t 13) 1),
   S 8 (.new true [(eI 0), (eI 0), (eI 0), (eI 0), (eI 0), (eI 0), (eI 0), (eI 0), (eI 0), (eI 0), (eI 0), (.full []), (eI 0), (eB false)]),
   E (.st 14 (.t 8) (.t 17)),
   S 9 (.mv (.t 18))])
 (.seq (.seq (.ops [S 19 (.mv (.t 7)),
   S 20 (.bin .eql .none (.t 19) (xI (-1))),
   S 21 (.mv (.t 20)),
   ⟨(some 22), .mv (.t 9), (some (21, false)), []⟩,
   ⟨(some 23), .un .not (.t 22), (some (21, false)), []⟩,
   S 24 (.pick (.t 21) (xB true) (.t 23))])
 (.cond (.t 24)
  (.seq (.ops [S 6 (.mv (xB false))])
  (.ret))
  (.skip)))
 (.seq (.ops [S 25 (.mv (.t 0)),
   S 26 (.nz (.t 25)),
   S 27 (.fld 13 (.t 26)),
   S 28 (.ld false 1 (.t 27)),
   S 29 (.mv (.t 1)),
   S 30 (.ixa 1 (.t 28) (.t 29)),
   S 31 (.ld false 1 (.t 30)),
   S 32 (.mv (.t 7)),
   S 33 (.ld true 4 (.t 5)),
   S 34 (.call n_ring_Ring_Put_38 [(.t 31), (.t 32), (.t 33)])])
 (.seq (.ops [S 35 (.mv (.t 0)),
   S 36 (.nz (.t 35)),
   S 37 (.fld 12 (.t 36)),
   S 38 (.ld false 1 (.t 37)),
   S 39 (.mv (.t 1)),
   S 40 (.ixa 1 (.t 38) (.t 39)),
   S 41 (.ld false 1 (.t 40)),
   S 42 (.bin .add .none (.t 41) (xI 1)),
   S 43 (.ixa 1 (.t 38) (.t 39)),
   E (.st 1 (.t 43) (.t 42))])
 (.seq (.ops [S 6 (.mv (xB true))])
 (.ret))))))),
 [.tmp 6], false, false, false⟩
/- (*sibyl/log.Log).Reply -/
def d_log_Log_Reply : DFn := ⟨2,
 .seq (.ops [S 3 (.box true 3 (.t 1)),
   S 4 (.mv (xB false))])
 (.seq (.ops [S 15 (.mv (.t 0)),
   S 16 (.call n_log_Log_Collect [(.t 15)]),
   S 14 (.mv (.t 16)),
   S 17 (.ext (.t 14) 0),
   S 18 (.ext (.t 14) 1),
   S 5 (.mv (.t 17)),
   S 6 (.mv (.t 18))])
 (.seq (.seq (.ops [S 19 (.mv (.t 6)),
   S 20 (.un .not (.t 19))])
 (.cond (.t 20)
  (.seq (.ops [S 4 (.mv (xB false))])
  (.ret))
  (.skip)))
 (.seq (.ops [S 21 (.mv (.t 0)),
   S 22 (.call n_log_Log_Low [(.t 21)]),
   S 7 (.mv (.t 22))])
 (.seq (.ops [S 24 (.mv (.t 0)),
   S 25 (.nz (.t 24)),
   S 26 (.fld 11 (.t 25)),
   S 27 (.ld false 1 (.t 26)),
   S 28 (.call n_ring_Ring_Drop [(.t 27)]),
   S 23 (.mv (.t 28)),
   S 29 (.ext (.t 23) 0),
   S 30 (.ext (.t 23) 1),
   S 8 (.new true [(eI 0), (eI 0), (eI 0), (eI 0), (eI 0), (eI 0), (eI 0), (eI 0), (eI 0), (eI 0), (eI 0), (.full []), (eI 0), (eB false)]),
   E (.st 14 (.t 8) (.t 29)),
   S 9 (.mv (.t 30))])
 (.seq (.seq (.ops [S 31 (.fld 0 (.t 8)),
   S 32 (.ld false 1 (.t 31)),
   S 33 (.bin .neq .none (.t 32) (xI 1))])
 (.cond (.t 33)
  (.ops [S 34 (.mv (.t 0)),
    S 35 (.nz (.t 34)),
    S 36 (.fld 14 (.t 35)),
    S 37 (.ld false 1 (.t 36)),
    S 38 (.mv (.t 7)),
    S 39 (.ld true 3 (.t 3)),
    E (.upd .int (.t 37) (.t 38) (.t 39))])
  (.skip)))
 (.seq (.seq (.ops [S 40 (.mv (.t 0)),
   S 41 (.nz (.t 40)),
   S 42 (.fld 13 (.t 41)),
   S 43 (.ld false 1 (.t 42)),
   S 44 (.len 0 (.t 43)),
   S 45 (.mv (xI 0))])
 (.block 0 (.loop [7, 43, 44, 45] (.seq (.ops [S 46 (.bin .lss .none (.t 45) (.t 44))])
   (.seq (.cond (.t 46)
    (.skip)
    (.exit 0))
   (.seq (.block 1 (.seq (.ops [S 47 (.ixa 1 (.t 43) (.t 45)),
      S 48 (.ld false 1 (.t 47)),
      S 11 (.mv (.t 48))])
    (.seq (.ops [S 50 (.mv (.t 11)),
      S 51 (.call n_ring_Ring_Drop_41 [(.t 50)]),
      S 49 (.mv (.t 51)),
      S 52 (.ext (.t 49) 0),
      S 53 (.ext (.t 49) 1),
      S 12 (.new true [(.full []), (.full []), (.full []), (.full [])]),
      E (.st 4 (.t 12) (.t 52)),
      S 13 (.mv (.t 53))])
    (.seq (.ops [S 54 (.mv (.t 13)),
      S 55 (.un .not (.t 54))])
    (.cond (.t 55)
     (.seq (.ops [S 56 (.mv (.t 11)),
       S 57 (.mv (.t 7)),
       S 58 (.build [(.full []), (.full []), (.full []), (.full [])] []),
       S 59 (.call n_ring_Ring_Put_38 [(.t 56), (.t 57), (.t 58)])])
     (.ops [S 60 (.mv (.t 11)),
       S 61 (.call n_ring_Ring_Drop_41 [(.t 60)])]))
     (.skip))))))
   (.ops [S 62 (.bin .add .none (.t 45) (xI 1)),
     S 45 (.mv (.t 62))])))))))
 (.seq (.ops [S 4 (.mv (xB true))])
 (.ret)))))))),
 [.tmp 4], false, false, false⟩
/- (*sibyl/log.Log).Low -/
def d_log_Log_Low : DFn := ⟨1,
 .seq (.ops [S 2 (.mv (xI 0))])
 (.seq (.seq (.ops [S 3 (.mv (.t 0)),
   S 4 (.bin .eql .ptr (.t 3) (.v .nilp))])
 (.cond (.t 4)
  (.seq (.ops [S 2 (.mv (xI 0))])
  (.ret))
  (.skip)))
 (.seq (.ops [S 5 (.mv (.t 0)),
   S 6 (.nz (.t 5)),
   S 7 (.fld 11 (.t 6)),
   S 8 (.ld false 1 (.t 7)),
   S 9 (.call n_ring_Ring_Low [(.t 8)]),
   S 2 (.mv (.t 9))])
 (.ret))),
 [.tmp 2], false, false, false⟩
/- (*sibyl/client.Client).look -/
def d_client_Client_look : DFn := ⟨1,
 .seq (.ops [S 5 (.mv (.t 0)),
   S 6 (.nz (.t 5)),
   S 7 (.fld 0 (.t 6)),
   S 8 (.ld false 1 (.t 7)),
   S 9 (.call n_log_Log_Tail [(.t 8)]),
   S 4 (.mv (.t 9)),
   S 10 (.ext (.t 4) 0),
   S 11 (.ext (.t 4) 1),
   S 2 (.mv (.t 10)),
   S 3 (.mv (.t 11))])
 (.seq (.ops [S 12 (.mv (.t 0)),
   S 13 (.mv (.t 2)),
   S 14 (.nz (.t 12)),
   S 15 (.fld 15 (.t 14)),
   E (.st 1 (.t 15) (.t 13))])
 (.block 0 (.seq (.ops [S 22 (.mv (.t 3)),
    S 23 (.mv (.t 22)),
    ⟨(some 24), .mv (.t 0), (some (23, true)), []⟩,
    ⟨(some 25), .nz (.t 24), (some (23, true)), []⟩,
    ⟨(some 26), .fld 1 (.t 25), (some (23, true)), []⟩,
    ⟨(some 27), .fld 0 (.t 26), (some (23, true)), []⟩,
    ⟨(some 28), .ld false 1 (.t 27), (some (23, true)), []⟩,
    ⟨(some 29), .bin .neq .none (.t 28) (xI 4), (some (23, true)), []⟩,
    S 30 (.pick (.t 23) (.t 29) (xB false)),
    S 21 (.mv (.t 30))])
  (.cond (.t 21)
   (.ops [S 31 (.mv (.t 0)),
     S 32 (.call n_client_Client_end [(.t 31), (xI 17), (xI 0)])])
   (.seq (.ops [S 34 (.mv (.t 2)),
     S 35 (.mv (.t 0)),
     S 36 (.nz (.t 35)),
     S 37 (.fld 0 (.t 36)),
     S 38 (.ld false 1 (.t 37)),
     S 39 (.call n_log_Log_Config [(.t 38)]),
     S 40 (.fget 6 1 false (.t 39)),
     S 41 (.bin .eql .none (.t 34) (.t 40)),
     S 33 (.mv (.t 41))])
   (.cond (.t 33)
    (.ops [S 42 (.mv (.t 0)),
      S 43 (.call n_client_Client_end [(.t 42), (xI 19), (xI 0)])])
    (.ops [S 16 (.mv (.t 0)),
      S 17 (.mv (.t 0)),
      S 18 (.mkf (.func n_client_Client_room) [(.t 17)] []),
      S 19 (.nz (.t 16)),
      S 20 (.fld 14 (.t 19)),
      E (.st 1 (.t 20) (.t 18))]))))))),
 [], false, false, false⟩
/- sibyl/client.Read -/
def d_client_Read : DFn := ⟨1,
 .seq (.ops [S 2 (.new true [(.full []), (eI 0), (eB false), (eI 0), (eI 0)])])
 (.seq (.ops [S 8 (.mv (.t 0)),
   S 9 (.call n_query_Parse [(.t 8)]),
   S 7 (.mv (.t 9)),
   S 10 (.ext (.t 7) 0),
   S 11 (.ext (.t 7) 1),
   S 12 (.ext (.t 7) 2),
   S 3 (.new true [(.full []), (.full []), (eI 0), (eB false)]),
   E (.st 4 (.t 3) (.t 10)),
   S 4 (.mv (.t 11)),
   S 5 (.mv (.t 12))])
 (.seq (.seq (.ops [S 13 (.mv (.t 5)),
   S 14 (.bin .neq .none (.t 13) (xI 0))])
 (.cond (.t 14)
  (.seq (.ops [S 15 (.mv (.t 5)),
    S 16 (.mv (.t 4)),
    S 17 (.build [(.full []), (eI 0), (eB false), (eI 0), (eI 0)] [(3, 1, (.t 15)), (4, 1, (.t 16))]),
    E (.st 5 (.t 2) (.t 17))])
  (.ret))
  (.skip)))
 (.seq (.ops [S 19 (.ld true 4 (.t 3)),
   S 20 (.call 46 [(.t 19)]),
   S 18 (.mv (.t 20)),
   S 21 (.ext (.t 18) 0),
   S 22 (.ext (.t 18) 1),
   S 6 (.new true [(.full []), (eI 0), (eB false)]),
   E (.st 3 (.t 6) (.t 21)),
   S 5 (.mv (.t 22))])
 (.seq (.ops [S 23 (.ld true 3 (.t 6)),
   S 24 (.mv (.t 5)),
   S 25 (.build [(.full []), (eI 0), (eB false), (eI 0), (eI 0)] [(0, 3, (.t 23)), (3, 1, (.t 24))]),
   E (.st 5 (.t 2) (.t 25))])
 (.ret))))),
 [.cell 2 true 5], false, false, false⟩
/- (*sibyl/client.Client).end -/
def d_client_Client_end : DFn := ⟨3,
 .ops [S 6 (.mv (.t 0)),
   S 7 (.mv (.t 0)),
   S 8 (.mv (.t 1)),
   S 9 (.mv (.t 2)),
   S 10 (.build [(eI 0), (eI 0), (.full [])] [(0, 1, (.t 8)), (1, 1, (.t 9))]),
   S 11 (.nz (.t 6)),
   S 12 (.fld 14 (.t 11)),
   E (.st 1 (.t 12) (.v .nilf)),
   S 13 (.nz (.t 7)),
   S 14 (.fld 20 (.t 13)),
   E (.st 3 (.t 14) (.t 10))],
 [], false, false, false⟩
/- sibyl/sibylref03.Print -/
def d_rPrint : DFn := ⟨1,
 .seq (.ops [S 1 (.box true 4 (.t 0)),
   S 2 (.mv (.v (.p (.str (bs [])))))])
 (.seq (.ops [S 9 (.ld true 4 (.t 1)),
   S 10 (.call n_Printable [(.t 9)]),
   S 3 (.mv (.t 10))])
 (.seq (.seq (.ops [S 11 (.mv (.t 3)),
   S 12 (.un .not (.t 11))])
 (.cond (.t 12)
  (.seq (.ops [S 2 (.mv (.v (.p (.str (bs [])))))])
  (.ret))
  (.skip)))
 (.seq (.ops [S 4 (.mv (.v (.p (.str (bs [115, 101, 113, 32])))))])
 (.seq (.seq (.ops [S 5 (.mv (xI 0))])
 (.block 0 (.loop [1, 4, 5] (.seq (.seq (.ops [S 13 (.mv (.t 5)),
     S 14 (.fld 0 (.t 1)),
     S 15 (.ld false 1 (.t 14)),
     S 16 (.len 0 (.t 15)),
     S 17 (.bin .lss .none (.t 13) (.t 16))])
   (.cond (.t 17)
    (.skip)
    (.exit 0)))
   (.seq (.block 1 (.seq (.ops [S 20 (.fld 0 (.t 1)),
      S 21 (.ld false 1 (.t 20)),
      S 22 (.mv (.t 5)),
      S 23 (.ixa 4 (.t 21) (.t 22)),
      S 24 (.ld true 4 (.t 23)),
      S 6 (.new true [(eI 0), (.p (.str (bs []))), (eB false), (eB false)]),
      E (.st 4 (.t 6) (.t 24))])
    (.seq (.seq (.ops [S 25 (.mv (.t 5)),
      S 26 (.bin .gtr .none (.t 25) (xI 0))])
    (.cond (.t 26)
     (.ops [S 27 (.mv (.t 4)),
       S 28 (.bin .add .none (.t 27) (.v (.p (.str (bs [44, 32]))))),
       S 4 (.mv (.t 28))])
     (.skip)))
    (.seq (.seq (.ops [S 29 (.fld 3 (.t 6)),
      S 30 (.ld false 1 (.t 29))])
    (.cond (.t 30)
     (.ops [S 31 (.mv (.t 4)),
       S 32 (.bin .add .none (.t 31) (.v (.p (.str (bs [33]))))),
       S 4 (.mv (.t 32))])
     (.skip)))
    (.seq (.ops [S 33 (.mv (.t 4)),
      S 34 (.fld 0 (.t 6)),
      S 35 (.ld false 1 (.t 34)),
      S 36 (.fld 0 (.t 6)),
      S 37 (.ld false 1 (.t 36)),
      S 38 (.bin .add .none (.t 37) (xI 1)),
      S 39 (.sls (.v (.p (.str (bs [65, 66, 67, 68, 69, 70, 71, 72])))) (some (.t 35)) (some (.t 38))),
      S 40 (.bin .add .none (.t 33) (.t 39)),
      S 4 (.mv (.t 40))])
    (.seq (.seq (.ops [S 41 (.fld 2 (.t 6)),
      S 42 (.ld false 1 (.t 41))])
    (.cond (.t 42)
     (.ops [S 43 (.mv (.t 4)),
       S 44 (.bin .add .none (.t 43) (.v (.p (.str (bs [43]))))),
       S 4 (.mv (.t 44))])
     (.skip)))
    (.ops [S 45 (.mv (.t 4)),
      S 46 (.bin .add .none (.t 45) (.v (.p (.str (bs [32]))))),
      S 47 (.fld 1 (.t 6)),
      S 48 (.ld false 1 (.t 47)),
      S 49 (.bin .add .none (.t 46) (.t 48)),
      S 4 (.mv (.t 49))])))))))
   (.ops [S 18 (.mv (.t 5)),
     S 19 (.bin .add .none (.t 18) (xI 1)),
     S 5 (.mv (.t 19))]))))))
 (.seq (.ops [S 50 (.build [(.p (.str (bs []))), (.p (.str (bs []))), (.p (.str (bs []))), (.p (.str (bs []))), (.p (.str (bs []))), (.p (.str (bs [])))] [(0, 1, (.v (.p (.str (bs [32, 61, 32]))))), (1, 1, (.v (.p (.str (bs [32, 33, 61, 32]))))), (2, 1, (.v (.p (.str (bs [32, 60, 32]))))), (3, 1, (.v (.p (.str (bs [32, 60, 61, 32]))))), (4, 1, (.v (.p (.str (bs [32, 62, 32]))))), (5, 1, (.v (.p (.str (bs [32, 62, 61, 32])))))]),
   S 7 (.new true [(.p (.str (bs []))), (.p (.str (bs []))), (.p (.str (bs []))), (.p (.str (bs []))), (.p (.str (bs []))), (.p (.str (bs [])))]),
   E (.st 6 (.t 7) (.t 50))])
 (.seq (.seq (.ops [S 8 (.mv (xI 0))])
 (.block 2 (.loop [1, 4, 7, 8] (.seq (.seq (.ops [S 51 (.mv (.t 8)),
     S 52 (.fld 1 (.t 1)),
     S 53 (.ld false 1 (.t 52)),
     S 54 (.len 0 (.t 53)),
     S 55 (.bin .lss .none (.t 51) (.t 54))])
   (.cond (.t 55)
    (.skip)
    (.exit 2)))
   (.seq (.block 3 (.seq (.seq (.ops [S 58 (.mv (.t 8)),
      S 59 (.bin .eql .none (.t 58) (xI 0))])
    (.cond (.t 59)
     (.ops [S 60 (.mv (.t 4)),
       S 61 (.bin .add .none (.t 60) (.v (.p (.str (bs [32, 119, 104, 101, 114, 101, 32]))))),
       S 4 (.mv (.t 61))])
     (.ops [S 62 (.mv (.t 4)),
       S 63 (.bin .add .none (.t 62) (.v (.p (.str (bs [32, 97, 110, 100, 32]))))),
       S 4 (.mv (.t 63))])))
    (.ops [S 64 (.mv (.t 4)),
      S 65 (.fld 1 (.t 1)),
      S 66 (.ld false 1 (.t 65)),
      S 67 (.mv (.t 8)),
      S 68 (.ixa 3 (.t 66) (.t 67)),
      S 69 (.fld 1 (.t 68)),
      S 70 (.ld false 1 (.t 69)),
      S 73 (.fld 1 (.t 1)),
      S 74 (.ld false 1 (.t 73)),
      S 75 (.mv (.t 8)),
      S 76 (.ixa 3 (.t 74) (.t 75)),
      S 77 (.fld 0 (.t 76)),
      S 78 (.ld false 1 (.t 77)),
      S 79 (.bin .sub .none (.t 78) (xI 1)),
      S 80 (.ixp 6 1 (.t 7) (.t 79)),
      S 81 (.ld false 1 (.t 80)),
      S 83 (.fld 1 (.t 1)),
      S 84 (.ld false 1 (.t 83)),
      S 85 (.mv (.t 8)),
      S 86 (.ixa 3 (.t 84) (.t 85)),
      S 87 (.fld 2 (.t 86)),
      S 88 (.ld false 1 (.t 87)),
      ⟨(some 71), .call n_Text [(.t 70)], none, [(88, .ld false 1 (.t 87), none), (84, .ld false 1 (.t 83), none), (81, .ld false 1 (.t 80), none), (78, .ld false 1 (.t 77), none), (74, .ld false 1 (.t 73), none)]⟩,
      S 72 (.bin .add .none (.t 64) (.t 71)),
      S 82 (.bin .add .none (.t 72) (.t 81)),
      ⟨(some 89), .call n_Text [(.t 88)], none, [(81, .ld false 1 (.t 80), none), (78, .ld false 1 (.t 77), none), (74, .ld false 1 (.t 73), none)]⟩,
      S 90 (.bin .add .none (.t 82) (.t 89)),
      S 4 (.mv (.t 90))])))
   (.ops [S 56 (.mv (.t 8)),
     S 57 (.bin .add .none (.t 56) (xI 1)),
     S 8 (.mv (.t 57))]))))))
 (.seq (.ops [S 91 (.mv (.t 4)),
   S 92 (.bin .add .none (.t 91) (.v (.p (.str (bs [32, 119, 105, 116, 104, 105, 110, 32]))))),
   S 93 (.fld 2 (.t 1)),
   S 94 (.ld false 1 (.t 93)),
   S 95 (.call n_digits [(.t 94)]),
   S 96 (.bin .add .none (.t 92) (.t 95)),
   S 4 (.mv (.t 96))])
 (.seq (.seq (.ops [S 97 (.fld 3 (.t 1)),
   S 98 (.ld false 1 (.t 97))])
 (.cond (.t 98)
  (.ops [S 99 (.mv (.t 4)),
    S 100 (.bin .add .none (.t 99) (.v (.p (.str (bs [32, 98, 121, 32, 107, 101, 121]))))),
    S 4 (.mv (.t 100))])
  (.skip)))
 (.seq (.ops [S 101 (.mv (.t 4)),
   S 2 (.mv (.t 101))])
 (.ret)))))))))),
 [.tmp 2], false, true, false⟩
/- sibyl/sibylref03.Made -/
def d_Made : DFn := ⟨1,
 .seq (.ops [S 2 (.new true [(.full []), (.full []), (eI 0), (eB false)])])
 (.seq (.seq (.ops [S 16 (.mv (.t 0)),
   S 17 (.len 0 (.t 16)),
   S 18 (.bin .gtr .none (.t 17) (xI 80))])
 (.cond (.t 18)
  (.ops [S 19 (.mv (.t 0)),
    S 20 (.slc 1 (.t 19) none (some (xI 80)) none),
    S 0 (.mv (.t 20))])
  (.skip)))
 (.seq (.ops [S 21 (.mv (.t 0)),
   S 22 (.build [(.full []), (eI 0)] [(0, 1, (.t 21))]),
   S 23 (.box true 2 (.t 22)),
   S 3 (.mv (.t 23))])
 (.seq (.ops [S 24 (.mv (.t 3)),
   S 25 (.call n_Next [(.t 24), (xI 7)]),
   S 26 (.bin .add .none (xI 1) (.t 25)),
   S 27 (.mv (.t 3)),
   S 28 (.call n_Next [(.t 27), (xI 2)]),
   S 29 (.bin .eql .none (.t 28) (xI 1)),
   S 30 (.build [(.full []), (.full []), (eI 0), (eB false)] [(2, 1, (.t 26)), (3, 1, (.t 29))]),
   S 4 (.new true [(.full []), (.full []), (eI 0), (eB false)]),
   E (.st 4 (.t 4) (.t 30))])
 (.seq (.ops [S 31 (.mv (.t 3)),
   S 32 (.call n_Next [(.t 31), (xI 4)]),
   S 33 (.bin .add .none (xI 1) (.t 32)),
   S 5 (.mv (.t 33))])
 (.seq (.ops [S 34 (.build [(.p (.str (bs []))), (.p (.str (bs []))), (.p (.str (bs []))), (.p (.str (bs [])))] [(0, 1, (.v (.p (.str (bs [97]))))), (1, 1, (.v (.p (.str (bs [98]))))), (2, 1, (.v (.p (.str (bs [99]))))), (3, 1, (.v (.p (.str (bs [100])))))]),
   S 6 (.new true [(.p (.str (bs []))), (.p (.str (bs []))), (.p (.str (bs []))), (.p (.str (bs [])))]),
   E (.st 4 (.t 6) (.t 34))])
 (.seq (.ops [S 7 (.nils 1 false)])
 (.seq (.ops [S 8 (.mv (xI (-1)))])
 (.seq (.seq (.ops [S 9 (.mv (xI 0))])
 (.block 0 (.loop [2, 3, 4, 5, 6, 7, 8, 9] (.seq (.seq (.ops [S 35 (.mv (.t 9)),
     S 36 (.mv (.t 5)),
     S 37 (.bin .lss .none (.t 35) (.t 36))])
   (.cond (.t 37)
    (.skip)
    (.exit 0)))
   (.seq (.block 1 (.seq (.ops [S 40 (.mv (.t 3)),
      S 42 (.mv (.t 9)),
      S 43 (.ixp 4 1 (.t 6) (.t 42)),
      S 44 (.ld false 1 (.t 43)),
      S 10 (.new true [(eI 0), (.p (.str (bs []))), (eB false), (eB false)]),
      ⟨(some 41), .call n_Next [(.t 40), (xI 3)], none, [(44, .ld false 1 (.t 43), none)]⟩,
      S 45 (.build [(eI 0), (.p (.str (bs []))), (eB false), (eB false)] [(0, 1, (.t 41)), (1, 1, (.t 44))]),
      E (.st 4 (.t 10) (.t 45))])
    (.seq (.ops [S 46 (.mv (.t 3)),
      S 47 (.call n_Next [(.t 46), (xI 5)]),
      S 11 (.mv (.t 47))])
    (.seq (.seq (.ops [S 48 (.mv (.t 11)),
      S 49 (.bin .eql .none (.t 48) (xI 0)),
      S 50 (.mv (.t 49)),
      ⟨(some 51), .mv (.t 9), (some (50, true)), []⟩,
      ⟨(some 52), .bin .gtr .none (.t 51) (xI 0), (some (50, true)), []⟩,
      S 53 (.pick (.t 50) (.t 52) (xB false)),
      S 54 (.mv (.t 53)),
      ⟨(some 55), .mv (.t 9), (some (54, true)), []⟩,
      ⟨(some 56), .mv (.t 5), (some (54, true)), []⟩,
      ⟨(some 57), .bin .sub .none (.t 56) (xI 1), (some (54, true)), []⟩,
      ⟨(some 58), .bin .lss .none (.t 55) (.t 57), (some (54, true)), []⟩,
      S 59 (.pick (.t 54) (.t 58) (xB false))])
    (.cond (.t 59)
     (.seq (.ops [S 60 (.fld 3 (.t 10)),
       E (.st 1 (.t 60) (xB true))])
     (.ops [S 61 (.mv (.t 9)),
       S 8 (.mv (.t 61))]))
     (.seq (.ops [S 62 (.mv (.t 11)),
       S 63 (.bin .eql .none (.t 62) (xI 1)),
       S 64 (.fld 2 (.t 10)),
       E (.st 1 (.t 64) (.t 63))])
     (.ops [S 65 (.mv (.t 7)),
       S 66 (.mv (.t 9)),
       S 67 (.ixp 4 1 (.t 6) (.t 66)),
       S 68 (.ld false 1 (.t 67)),
       S 69 (.lit 1 false [[(.p (.str (bs [])))]] [(0, (.t 68))]),
       S 70 (.app 1 false 16 (.t 65) (.t 69)),
       S 7 (.mv (.t 70))]))))
    (.ops [S 71 (.fld 0 (.t 4)),
      S 72 (.ld false 1 (.t 71)),
      S 73 (.ld true 4 (.t 10)),
      S 74 (.lit 4 true [[(eI 0), (.p (.str (bs []))), (eB false), (eB false)]] [(0, (.t 73))]),
      S 75 (.app 4 true 32 (.t 72) (.t 74)),
      S 76 (.fld 0 (.t 4)),
      E (.st 1 (.t 76) (.t 75))])))))
   (.ops [S 38 (.mv (.t 9)),
     S 39 (.bin .add .none (.t 38) (xI 1)),
     S 9 (.mv (.t 39))]))))))
 (.seq (.seq (.ops [S 12 (.mv (xI 0))])
 (.block 2 (.loop [2, 3, 4, 5, 6, 7, 8, 12] (.seq (.seq (.ops [S 77 (.mv (.t 12)),
     S 78 (.mv (.t 3)),
     S 79 (.call n_Next [(.t 78), (xI 3)]),
     S 80 (.bin .lss .none (.t 77) (.t 79))])
   (.cond (.t 80)
    (.skip)
    (.exit 2)))
   (.seq (.block 3 (.seq (.ops [S 83 (.mv (.t 7)),
      S 13 (.mv (.t 83))])
    (.seq (.seq (.ops [S 84 (.mv (.t 8)),
      S 85 (.bin .geq .none (.t 84) (xI 0)),
      S 86 (.mv (.t 85)),
      ⟨(some 87), .mv (.t 3), (some (86, true)), []⟩,
      ⟨(some 88), .call n_Next [(.t 87), (xI 2)], (some (86, true)), []⟩,
      ⟨(some 89), .bin .eql .none (.t 88) (xI 0), (some (86, true)), []⟩,
      S 90 (.pick (.t 86) (.t 89) (xB false))])
    (.cond (.t 90)
     (.seq (.ops [S 91 (.lit 1 false [] []),
       S 92 (.mv (.t 8)),
       S 93 (.sla 4 1 (.t 6) none (some (.t 92))),
       S 95 (.mv (.t 8)),
       S 96 (.ixp 4 1 (.t 6) (.t 95)),
       S 97 (.ld false 1 (.t 96)),
       S 98 (.lit 1 false [[(.p (.str (bs [])))]] [(0, (.t 97))]),
       ⟨(some 94), .app 1 false 16 (.t 91) (.t 93), none, [(97, .ld false 1 (.t 96), none)]⟩,
       S 99 (.app 1 false 16 (.t 94) (.t 98)),
       S 13 (.mv (.t 99))])
     (.seq (.ops [S 14 (.mv (xI 0))])
     (.block 4 (.loop [2, 3, 4, 5, 6, 7, 8, 12, 13, 14] (.seq (.seq (.ops [S 100 (.mv (.t 14)),
         S 101 (.mv (.t 8)),
         S 102 (.bin .lss .none (.t 100) (.t 101))])
       (.cond (.t 102)
        (.skip)
        (.exit 4)))
       (.seq (.block 5 (.seq (.ops [S 105 (.fld 0 (.t 4)),
          S 106 (.ld false 1 (.t 105)),
          S 107 (.mv (.t 14)),
          S 108 (.ixa 4 (.t 106) (.t 107)),
          S 109 (.fld 3 (.t 108)),
          S 110 (.ld false 1 (.t 109))])
        (.cond (.t 110)
         (.ops [S 111 (.mv (.t 13)),
           S 112 (.mv (.t 14)),
           S 113 (.ixa 1 (.t 111) (.t 112)),
           E (.st 1 (.t 113) (.v (.p (.str (bs [97])))))])
         (.skip))))
       (.ops [S 103 (.mv (.t 14)),
         S 104 (.bin .add .none (.t 103) (xI 1)),
         S 14 (.mv (.t 104))])))))))
     (.skip)))
    (.ops [S 114 (.fld 1 (.t 4)),
      S 115 (.ld false 1 (.t 114)),
      S 116 (.mv (.t 3)),
      S 119 (.mv (.t 3)),
      S 120 (.mv (.t 13)),
      S 122 (.mv (.t 3)),
      S 123 (.mv (.t 13)),
      ⟨(some 117), .call n_Next [(.t 116), (xI 6)], none, [(115, .ld false 1 (.t 114), none)]⟩,
      S 118 (.bin .add .none (xI 1) (.t 117)),
      ⟨(some 121), .call n_Codes [(.t 119), (.t 120), (xI 2)], none, [(115, .ld false 1 (.t 114), none)]⟩,
      ⟨(some 124), .call n_Codes [(.t 122), (.t 123), (xI 1)], none, [(115, .ld false 1 (.t 114), none)]⟩,
      S 125 (.build [(eI 0), (.full []), (.full [])] [(0, 1, (.t 118)), (1, 1, (.t 121)), (2, 1, (.t 124))]),
      S 126 (.lit 3 true [[(eI 0), (.full []), (.full [])]] [(0, (.t 125))]),
      S 127 (.app 3 true 56 (.t 115) (.t 126)),
      S 128 (.fld 1 (.t 4)),
      E (.st 1 (.t 128) (.t 127))]))))
   (.ops [S 81 (.mv (.t 12)),
     S 82 (.bin .add .none (.t 81) (xI 1)),
     S 12 (.mv (.t 82))]))))))
 (.seq (.ops [S 129 (.mv (.t 3)),
   S 130 (.mv (.t 5)),
   S 131 (.call n_Next [(.t 129), (.t 130)]),
   S 15 (.mv (.t 131))])
 (.seq (.seq (.ops [S 132 (.fld 0 (.t 4)),
   S 133 (.ld false 1 (.t 132)),
   S 134 (.mv (.t 15)),
   S 135 (.ixa 4 (.t 133) (.t 134)),
   S 136 (.fld 2 (.t 135)),
   S 137 (.ld false 1 (.t 136)),
   S 138 (.mv (.t 137)),
   ⟨(some 139), .mv (.t 3), (some (138, true)), []⟩,
   ⟨(some 140), .call n_Next [(.t 139), (xI 2)], (some (138, true)), []⟩,
   ⟨(some 141), .bin .eql .none (.t 140) (xI 0), (some (138, true)), []⟩,
   S 142 (.pick (.t 138) (.t 141) (xB false))])
 (.cond (.t 142)
  (.ops [S 143 (.fld 1 (.t 4)),
    S 144 (.ld false 1 (.t 143)),
    S 145 (.mv (.t 3)),
    S 148 (.mv (.t 15)),
    S 149 (.ixp 4 1 (.t 6) (.t 148)),
    S 150 (.ld false 1 (.t 149)),
    S 151 (.build [(eI 0), (eI 0), (.p (.str (bs []))), (eI 0), (eI 0)] [(0, 1, (xI 8)), (2, 1, (.t 150))]),
    S 152 (.lit 5 true [[(eI 0), (eI 0), (.p (.str (bs []))), (eI 0), (eI 0)]] [(0, (.t 151))]),
    S 153 (.mv (.t 3)),
    ⟨(some 146), .call n_Next [(.t 145), (xI 6)], none, [(150, .ld false 1 (.t 149), none), (144, .ld false 1 (.t 143), none)]⟩,
    S 147 (.bin .add .none (xI 1) (.t 146)),
    ⟨(some 154), .call n_Next [(.t 153), (xI 3)], none, [(150, .ld false 1 (.t 149), none), (144, .ld false 1 (.t 143), none)]⟩,
    S 155 (.bin .add .none (xI 1) (.t 154)),
    S 156 (.build [(eI 0), (eI 0), (.p (.str (bs []))), (eI 0), (eI 0)] [(0, 1, (xI 6)), (1, 1, (.t 155))]),
    S 157 (.lit 5 true [[(eI 0), (eI 0), (.p (.str (bs []))), (eI 0), (eI 0)]] [(0, (.t 156))]),
    S 158 (.build [(eI 0), (.full []), (.full [])] [(0, 1, (.t 147)), (1, 1, (.t 152)), (2, 1, (.t 157))]),
    S 159 (.lit 3 true [[(eI 0), (.full []), (.full [])]] [(0, (.t 158))]),
    S 160 (.app 3 true 56 (.t 144) (.t 159)),
    S 161 (.fld 1 (.t 4)),
    E (.st 1 (.t 161) (.t 160))])
  (.skip)))
 (.seq (.ops [S 162 (.ld true 4 (.t 4)),
   E (.st 4 (.t 2) (.t 162))])
 (.ret))))))))))))),
 [.cell 2 true 4], true, true, false⟩
/- sibyl/sibylref08.Events -/
def d_Events : DFn := ⟨2,
 .seq (.ops [S 4 (.nils 6 true)])
 (.seq (.ops [S 5 (.nils 6 true)])
 (.seq (.seq (.ops [S 6 (.mv (xI 0))])
 (.block 0 (.loop [0, 1, 5, 6] (.seq (.seq (.ops [S 8 (.mv (.t 6)),
     S 9 (.mv (.t 0)),
     S 10 (.len 0 (.t 9)),
     S 11 (.bin .lss .none (.t 8) (.t 10)),
     S 12 (.mv (.t 11)),
     ⟨(some 13), .mv (.t 6), (some (12, true)), []⟩,
     ⟨(some 14), .mv (.t 1), (some (12, true)), []⟩,
     ⟨(some 15), .bin .lss .none (.t 13) (.t 14), (some (12, true)), []⟩,
     S 16 (.pick (.t 12) (.t 15) (xB false))])
   (.cond (.t 16)
    (.skip)
    (.exit 0)))
   (.seq (.block 1 (.seq (.ops [S 19 (.mv (.t 0)),
      S 20 (.mv (.t 6)),
      S 21 (.ixa 1 (.t 19) (.t 20)),
      S 22 (.ld false 1 (.t 21)),
      S 7 (.mv (.t 22))])
    (.seq (.seq (.ops [S 23 (.mv (.t 7)),
      S 24 (.bin .lss .none (.t 23) (xI 0))])
    (.cond (.t 24)
     (.ops [S 25 (.mv (.t 7)),
       S 26 (.bin .add .none (.t 25) (xI 1)),
       S 27 (.un .neg (.t 26)),
       S 7 (.mv (.t 27))])
     (.skip)))
    (.ops [S 28 (.mv (.t 5)),
      S 29 (.mv (.t 7)),
      S 30 (.bin .rem .none (.t 29) (xI 3)),
      S 31 (.mv (.t 7)),
      S 32 (.bin .quo .none (.t 31) (xI 3)),
      S 33 (.bin .rem .none (.t 32) (xI 3)),
      S 34 (.mv (.t 7)),
      S 35 (.bin .quo .none (.t 34) (xI 9)),
      S 36 (.bin .rem .none (.t 35) (xI 4)),
      S 37 (.mv (.t 7)),
      S 38 (.bin .quo .none (.t 37) (xI 36)),
      S 39 (.bin .rem .none (.t 38) (xI 3)),
      S 40 (.mv (.t 7)),
      S 41 (.bin .rem .none (.t 40) (xI 7)),
      S 42 (.mv (.t 6)),
      S 43 (.build [(eI 0), (eI 0), (eI 0), (eI 0)] [(0, 1, (.t 36)), (1, 1, (.t 39)), (2, 1, (.t 41)), (3, 1, (.t 42))]),
      S 44 (.build [(eI 0), (eI 0), (eI 0), (eI 0), (eI 0), (eI 0)] [(0, 1, (.t 30)), (1, 1, (.t 33)), (2, 4, (.t 43))]),
      S 45 (.lit 6 true [[(eI 0), (eI 0), (eI 0), (eI 0), (eI 0), (eI 0)]] [(0, (.t 44))]),
      S 46 (.app 6 true 48 (.t 28) (.t 45)),
      S 5 (.mv (.t 46))]))))
   (.ops [S 17 (.mv (.t 6)),
     S 18 (.bin .add .none (.t 17) (xI 1)),
     S 6 (.mv (.t 18))]))))))
 (.seq (.ops [S 47 (.mv (.t 5)),
   S 4 (.mv (.t 47))])
 (.ret)))),
 [.tmp 4], true, true, false⟩
/- sibyl/log.Right -/
def d_log_Right : DFn := ⟨1,
 .seq (.ops [S 1 (.box true 7 (.t 0)),
   S 2 (.mv (xB false))])
 (.seq (.seq (.ops [S 5 (.fld 1 (.t 1)),
   S 6 (.ld false 1 (.t 5)),
   S 7 (.fld 2 (.t 1)),
   S 8 (.ld false 1 (.t 7)),
   S 9 (.fld 3 (.t 1)),
   S 10 (.ld false 1 (.t 9)),
   S 11 (.fld 4 (.t 1)),
   S 12 (.ld false 1 (.t 11)),
   S 13 (.fld 5 (.t 1)),
   S 14 (.ld false 1 (.t 13)),
   S 15 (.build [(eI 0), (eI 0), (eI 0), (eI 0), (eI 0)] [(0, 1, (.t 6)), (1, 1, (.t 8)), (2, 1, (.t 10)), (3, 1, (.t 12)), (4, 1, (.t 14))]),
   S 16 (.mv (xI 0))])
 (.block 0 (.loop [1, 15, 16] (.seq (.ops [S 17 (.bin .lss .none (.t 16) (xI 5))])
   (.seq (.cond (.t 17)
    (.skip)
    (.exit 0))
   (.seq (.block 1 (.seq (.ops [S 18 (.ixg 5 1 false (.t 15) (.t 16)),
      S 4 (.mv (.t 18))])
    (.seq (.ops [S 19 (.mv (.t 4)),
      S 20 (.bin .lss .none (.t 19) (xI 1)),
      S 21 (.mv (.t 20)),
      ⟨(some 22), .mv (.t 4), (some (21, false)), []⟩,
      ⟨(some 23), .bin .gtr .none (.t 22) (xI 4096), (some (21, false)), []⟩,
      S 24 (.pick (.t 21) (xB true) (.t 23))])
    (.cond (.t 24)
     (.seq (.ops [S 2 (.mv (xB false))])
     (.ret))
     (.skip)))))
   (.ops [S 25 (.bin .add .none (.t 16) (xI 1)),
     S 16 (.mv (.t 25))])))))))
 (.seq (.ops [S 26 (.fld 0 (.t 1)),
   S 27 (.ld false 1 (.t 26)),
   S 28 (.bin .geq .none (.t 27) (xI 1)),
   S 29 (.mv (.t 28)),
   ⟨(some 30), .fld 0 (.t 1), (some (29, true)), []⟩,
   ⟨(some 31), .ld false 1 (.t 30), (some (29, true)), []⟩,
   ⟨(some 32), .bin .leq .none (.t 31) (xI 15), (some (29, true)), []⟩,
   S 33 (.pick (.t 29) (.t 32) (xB false)),
   S 34 (.mv (.t 33)),
   ⟨(some 35), .fld 6 (.t 1), (some (34, true)), []⟩,
   ⟨(some 36), .ld false 1 (.t 35), (some (34, true)), []⟩,
   ⟨(some 37), .bin .geq .none (.t 36) (xI 1), (some (34, true)), []⟩,
   S 38 (.pick (.t 34) (.t 37) (xB false)),
   S 39 (.mv (.t 38)),
   ⟨(some 40), .fld 6 (.t 1), (some (39, true)), []⟩,
   ⟨(some 41), .ld false 1 (.t 40), (some (39, true)), []⟩,
   ⟨(some 42), .bin .leq .none (.t 41) (xI 1099511627776), (some (39, true)), []⟩,
   S 43 (.pick (.t 39) (.t 42) (xB false)),
   S 2 (.mv (.t 43))])
 (.ret))),
 [.tmp 2], false, false, false⟩
/- sibyl/store.New -/
def d_store_New : DFn := ⟨1,
 .seq (.ops [S 2 (.mv (.v .nilp))])
 (.seq (.seq (.ops [S 3 (.mv (.t 0)),
   S 4 (.bin .lss .none (.t 3) (xI 1)),
   S 5 (.mv (.t 4)),
   ⟨(some 6), .mv (.t 0), (some (5, false)), []⟩,
   ⟨(some 7), .bin .gtr .none (.t 6) (xI 4096), (some (5, false)), []⟩,
   S 8 (.pick (.t 5) (xB true) (.t 7))])
 (.cond (.t 8)
  (.seq (.ops [S 2 (.mv (.v .nilp))])
  (.ret))
  (.skip)))
 (.seq (.ops [S 9 (.mv (.t 0)),
   S 10 (.mks 9 true 72 [(eI 0), (eB false), (eI 0), (eI 0), (eI 0), (eI 0), (eI 0), (eI 0), (eI 0)] (.t 9) (.t 9)),
   S 11 (.build [(.full []), (eI 0), (eI 0)] [(0, 1, (.t 10))]),
   S 12 (.box true 3 (.t 11)),
   S 2 (.mv (.t 12))])
 (.ret))),
 [.tmp 2], false, false, false⟩
/- sibyl/epoch.New -/
def d_epoch_New : DFn := ⟨1,
 .seq (.ops [S 2 (.mv (.v .nilp))])
 (.seq (.seq (.ops [S 5 (.mv (.t 0)),
   S 6 (.bin .lss .none (.t 5) (xI 1)),
   S 7 (.mv (.t 6)),
   ⟨(some 8), .mv (.t 0), (some (7, false)), []⟩,
   ⟨(some 9), .bin .gtr .none (.t 8) (xI 16), (some (7, false)), []⟩,
   S 10 (.pick (.t 7) (xB true) (.t 9))])
 (.cond (.t 10)
  (.seq (.ops [S 2 (.mv (.v .nilp))])
  (.ret))
  (.skip)))
 (.seq (.ops [S 11 (.mv (.t 0)),
   S 12 (.build [(eI 0), (eI 0), (eI 0), (eI 0), (eI 0), (eI 0), (eI 0), (eI 0), (eI 0), (eI 0), (eI 0), (eI 0), (eI 0), (eI 0), (eI 0), (eI 0), (eI 0), (eI 0), (.full []), (.full []), (.full []), (.full []), (.full []), (.full []), (.full []), (.full []), (.full []), (.full []), (.full []), (.full []), (.full []), (.full []), (.full []), (.full [])] [(1, 1, (.t 11))]),
   S 13 (.box true 34 (.t 12)),
   S 3 (.mv (.t 13))])
 (.seq (.seq (.ops [S 14 (.mv (xI 0))])
 (.block 0 (.loop [3, 14] (.seq (.ops [S 15 (.bin .lss .none (.t 14) (xI 16))])
   (.seq (.cond (.t 15)
    (.skip)
    (.exit 0))
   (.seq (.block 1 (.seq (.ops [S 16 (.mv (.t 14)),
      S 4 (.mv (.t 16))])
    (.ops [S 17 (.mv (.t 3)),
      S 18 (.mv (.t 4)),
      S 19 (.nz (.t 17)),
      S 20 (.fld 2 (.t 19)),
      S 21 (.ixp 16 1 (.t 20) (.t 18)),
      E (.st 1 (.t 21) (xI (-1)))])))
   (.ops [S 22 (.bin .add .none (.t 14) (xI 1)),
     S 14 (.mv (.t 22))])))))))
 (.seq (.ops [S 23 (.mv (.t 3)),
   S 2 (.mv (.t 23))])
 (.ret))))),
 [.tmp 2], false, false, false⟩
/- sibyl/ring.New[sibyl/api.Command] -/
def d_ring_New : DFn := ⟨1,
 .seq (.ops [S 2 (.mv (.v .nilp))])
 (.seq (.seq (.ops [S 3 (.mv (.t 0)),
   S 4 (.bin .lss .none (.t 3) (xI 1)),
   S 5 (.mv (.t 4)),
   ⟨(some 6), .mv (.t 0), (some (5, false)), []⟩,
   ⟨(some 7), .bin .gtr .none (.t 6) (xI 4096), (some (5, false)), []⟩,
   S 8 (.pick (.t 5) (xB true) (.t 7))])
 (.cond (.t 8)
  (.seq (.ops [S 2 (.mv (.v .nilp))])
  (.ret))
  (.skip)))
 (.seq (.ops [S 9 (.mv (.t 0)),
   S 10 (.mks 15 true 136 [(eI 0), (eI 0), (eI 0), (eI 0), (eI 0), (eI 0), (eI 0), (eI 0), (eI 0), (eI 0), (eI 0), (.full []), (eI 0), (eB false), (eB false)] (.t 9) (.t 9)),
   S 11 (.build [(.full []), (eI 0)] [(0, 1, (.t 10))]),
   S 12 (.box true 2 (.t 11)),
   S 2 (.mv (.t 12))])
 (.ret))),
 [.tmp 2], false, false, false⟩
/- sibyl/ring.New[sibyl/api.Out] -/
def d_ring_New_34 : DFn := ⟨1,
 .seq (.ops [S 2 (.mv (.v .nilp))])
 (.seq (.seq (.ops [S 3 (.mv (.t 0)),
   S 4 (.bin .lss .none (.t 3) (xI 1)),
   S 5 (.mv (.t 4)),
   ⟨(some 6), .mv (.t 0), (some (5, false)), []⟩,
   ⟨(some 7), .bin .gtr .none (.t 6) (xI 4096), (some (5, false)), []⟩,
   S 8 (.pick (.t 5) (xB true) (.t 7))])
 (.cond (.t 8)
  (.seq (.ops [S 2 (.mv (.v .nilp))])
  (.ret))
  (.skip)))
 (.seq (.ops [S 9 (.mv (.t 0)),
   S 10 (.mks 5 true 104 [(.full []), (.full []), (.full []), (.full []), (eB false)] (.t 9) (.t 9)),
   S 11 (.build [(.full []), (eI 0)] [(0, 1, (.t 10))]),
   S 12 (.box true 2 (.t 11)),
   S 2 (.mv (.t 12))])
 (.ret))),
 [.tmp 2], false, false, false⟩
/- (*sibyl/ring.Ring[sibyl/api.Command]).Put -/
def d_ring_Ring_Put : DFn := ⟨3,
 .seq (.ops [S 5 (.box true 14 (.t 2)),
   S 6 (.mv (xB false))])
 (.seq (.ops [S 8 (.mv (.t 0)),
   S 9 (.mv (.t 1)),
   S 10 (.call n_ring_Ring_at [(.t 8), (.t 9)]),
   S 7 (.mv (.t 10))])
 (.seq (.seq (.ops [S 11 (.mv (.t 7)),
   S 12 (.bin .eql .ptr (.t 11) (.v .nilp)),
   S 13 (.mv (.t 12)),
   ⟨(some 14), .mv (.t 7), (some (13, false)), []⟩,
   ⟨(some 15), .nz (.t 14), (some (13, false)), []⟩,
   ⟨(some 16), .fld 14 (.t 15), (some (13, false)), []⟩,
   ⟨(some 17), .ld false 1 (.t 16), (some (13, false)), []⟩,
   S 18 (.pick (.t 13) (xB true) (.t 17))])
 (.cond (.t 18)
  (.seq (.ops [S 6 (.mv (xB false))])
  (.ret))
  (.skip)))
 (.seq (.ops [S 19 (.mv (.t 7)),
   S 20 (.ld true 14 (.t 5)),
   S 21 (.build [(eI 0), (eI 0), (eI 0), (eI 0), (eI 0), (eI 0), (eI 0), (eI 0), (eI 0), (eI 0), (eI 0), (.full []), (eI 0), (eB false), (eB false)] [(0, 14, (.t 20)), (14, 1, (xB true))]),
   S 22 (.nz (.t 19)),
   E (.st 15 (.t 22) (.t 21))])
 (.seq (.ops [S 6 (.mv (xB true))])
 (.ret))))),
 [.tmp 6], false, false, false⟩
/- (*sibyl/log.Log).Cursor -/
def d_log_Log_Cursor : DFn := ⟨2,
 .seq (.ops [S 4 (.mv (xI 0))])
 (.seq (.seq (.ops [S 5 (.mv (.t 0)),
   S 6 (.bin .eql .ptr (.t 5) (.v .nilp)),
   S 7 (.mv (.t 6)),
   ⟨(some 8), .mv (.t 1), (some (7, false)), []⟩,
   ⟨(some 9), .bin .lss .none (.t 8) (xI 0), (some (7, false)), []⟩,
   S 10 (.pick (.t 7) (xB true) (.t 9)),
   S 11 (.mv (.t 10)),
   ⟨(some 12), .mv (.t 1), (some (11, false)), []⟩,
   ⟨(some 13), .mv (.t 0), (some (11, false)), []⟩,
   ⟨(some 14), .nz (.t 13), (some (11, false)), []⟩,
   ⟨(some 15), .fld 12 (.t 14), (some (11, false)), []⟩,
   ⟨(some 16), .ld false 1 (.t 15), (some (11, false)), []⟩,
   ⟨(some 17), .len 0 (.t 16), (some (11, false)), []⟩,
   ⟨(some 18), .bin .geq .none (.t 12) (.t 17), (some (11, false)), []⟩,
   S 19 (.pick (.t 11) (xB true) (.t 18))])
 (.cond (.t 19)
  (.seq (.ops [S 4 (.mv (xI (-1)))])
  (.ret))
  (.skip)))
 (.seq (.ops [S 20 (.mv (.t 0)),
   S 21 (.nz (.t 20)),
   S 22 (.fld 12 (.t 21)),
   S 23 (.ld false 1 (.t 22)),
   S 24 (.mv (.t 1)),
   S 25 (.ixa 1 (.t 23) (.t 24)),
   S 26 (.ld false 1 (.t 25)),
   S 4 (.mv (.t 26))])
 (.ret))),
 [.tmp 4], false, false, false⟩
/- (*sibyl/log.Log).Look -/
def d_log_Log_Look : DFn := ⟨2,
 .seq (.ops [S 4 (.new true [(eI 0), (eI 0), (eI 0), (eI 0), (eI 0), (eI 0), (eI 0), (eI 0), (eI 0), (eI 0), (eI 0), (.full []), (eI 0), (eB false)]),
   S 5 (.mv (xB false))])
 (.seq (.seq (.ops [S 6 (.mv (.t 0)),
   S 7 (.bin .eql .ptr (.t 6) (.v .nilp))])
 (.cond (.t 7)
  (.seq (.ops [S 8 (.build [(eI 0), (eI 0), (eI 0), (eI 0), (eI 0), (eI 0), (eI 0), (eI 0), (eI 0), (eI 0), (eI 0), (.full []), (eI 0), (eB false)] []),
    E (.st 14 (.t 4) (.t 8)),
    S 5 (.mv (xB false))])
  (.ret))
  (.skip)))
 (.seq (.ops [S 9 (.mv (.t 0)),
   S 10 (.nz (.t 9)),
   S 11 (.fld 11 (.t 10)),
   S 12 (.ld false 1 (.t 11)),
   S 13 (.mv (.t 1)),
   S 14 (.call n_ring_Ring_Get [(.t 12), (.t 13)]),
   S 15 (.ext (.t 14) 0),
   S 16 (.ext (.t 14) 1),
   E (.st 14 (.t 4) (.t 15)),
   S 5 (.mv (.t 16))])
 (.ret))),
 [.cell 4 true 14, .tmp 5], false, false, false⟩
/- (*sibyl/ring.Ring[sibyl/api.Out]).Put -/
def d_ring_Ring_Put_38 : DFn := ⟨3,
 .seq (.ops [S 5 (.box true 4 (.t 2)),
   S 6 (.mv (xB false))])
 (.seq (.ops [S 8 (.mv (.t 0)),
   S 9 (.mv (.t 1)),
   S 10 (.call n_ring_Ring_at_54 [(.t 8), (.t 9)]),
   S 7 (.mv (.t 10))])
 (.seq (.seq (.ops [S 11 (.mv (.t 7)),
   S 12 (.bin .eql .ptr (.t 11) (.v .nilp)),
   S 13 (.mv (.t 12)),
   ⟨(some 14), .mv (.t 7), (some (13, false)), []⟩,
   ⟨(some 15), .nz (.t 14), (some (13, false)), []⟩,
   ⟨(some 16), .fld 4 (.t 15), (some (13, false)), []⟩,
   ⟨(some 17), .ld false 1 (.t 16), (some (13, false)), []⟩,
   S 18 (.pick (.t 13) (xB true) (.t 17))])
 (.cond (.t 18)
  (.seq (.ops [S 6 (.mv (xB false))])
  (.ret))
  (.skip)))
 (.seq (.ops [S 19 (.mv (.t 7)),
   S 20 (.ld true 4 (.t 5)),
   S 21 (.build [(.full []), (.full []), (.full []), (.full []), (eB false)] [(0, 4, (.t 20)), (4, 1, (xB true))]),
   S 22 (.nz (.t 19)),
   E (.st 5 (.t 22) (.t 21))])
 (.seq (.ops [S 6 (.mv (xB true))])
 (.ret))))),
 [.tmp 6], false, false, false⟩
/- (*sibyl/log.Log).Collect -/
def d_log_Log_Collect : DFn := ⟨1,
 .seq (.ops [S 1 (.box false 1 (.t 0)),
   S 2 (.nils 4 true),
   S 3 (.mv (xB false))])
 (.seq (.ops [S 11 (.ld false 1 (.t 1)),
   S 12 (.ld false 1 (.t 1)),
   S 4 (.new true [(eI 0), (eI 0), (eI 0), (eI 0), (eI 0), (eI 0), (eI 0), (eI 0), (eI 0), (eI 0), (eI 0), (.full []), (eI 0), (eB false)]),
   ⟨(some 13), .call n_log_Log_Low [(.t 12)], none, [(11, .ld false 1 (.t 1), none)]⟩,
   S 14 (.call n_log_Log_Look [(.t 11), (.t 13)]),
   S 10 (.mv (.t 14)),
   S 15 (.ext (.t 10) 0),
   S 16 (.ext (.t 10) 1),
   E (.st 14 (.t 4) (.t 15)),
   S 5 (.mv (.t 16))])
 (.seq (.ops [S 17 (.mkf (.func n_log_Log_Collect_1) [] [(.t 1), (.t 4)]),
   S 6 (.mv (.t 17))])
 (.seq (.seq (.ops [S 18 (.mv (.t 5)),
   S 19 (.un .not (.t 18)),
   S 20 (.mv (.t 19)),
   ⟨(some 21), .ld false 1 (.t 1), (some (20, false)), []⟩,
   ⟨(some 22), .nz (.t 21), (some (20, false)), []⟩,
   ⟨(some 23), .fld 12 (.t 22), (some (20, false)), []⟩,
   ⟨(some 24), .ld false 1 (.t 23), (some (20, false)), []⟩,
   ⟨(some 25), .mv (.t 6), (some (20, false)), []⟩,
   ⟨(some 26), .call n_slices_ContainsFunc [(.t 24), (.t 25)], (some (20, false)), []⟩,
   S 27 (.pick (.t 20) (xB true) (.t 26))])
 (.cond (.t 27)
  (.seq (.ops [S 2 (.nils 4 true),
    S 3 (.mv (xB false))])
  (.ret))
  (.skip)))
 (.seq (.ops [S 28 (.ld false 1 (.t 1)),
   S 29 (.nz (.t 28)),
   S 30 (.fld 13 (.t 29)),
   S 31 (.ld false 1 (.t 30)),
   S 32 (.len 0 (.t 31)),
   S 33 (.mks 4 true 96 [(.full []), (.full []), (.full []), (.full [])] (.t 32) (.t 32)),
   S 7 (.mv (.t 33))])
 (.seq (.seq (.ops [S 34 (.ld false 1 (.t 1)),
   S 35 (.nz (.t 34)),
   S 36 (.fld 13 (.t 35)),
   S 37 (.ld false 1 (.t 36)),
   S 38 (.len 0 (.t 37)),
   S 39 (.mv (xI 0))])
 (.block 0 (.loop [1, 7, 37, 38, 39] (.seq (.ops [S 40 (.bin .lss .none (.t 39) (.t 38))])
   (.seq (.cond (.t 40)
    (.skip)
    (.exit 0))
   (.seq (.block 1 (.seq (.ops [S 41 (.mv (.t 39)),
      S 42 (.ixa 1 (.t 37) (.t 39)),
      S 43 (.ld false 1 (.t 42)),
      S 8 (.mv (.t 41)),
      S 9 (.mv (.t 43))])
    (.ops [S 45 (.mv (.t 7)),
      S 46 (.mv (.t 8)),
      S 47 (.mv (.t 9)),
      S 48 (.ld false 1 (.t 1)),
      S 49 (.call n_log_Log_Low [(.t 48)]),
      S 50 (.call n_ring_Ring_Get_57 [(.t 47), (.t 49)]),
      S 44 (.mv (.t 50)),
      S 51 (.ext (.t 44) 0),
      S 52 (.ext (.t 44) 1),
      S 53 (.ixa 4 (.t 45) (.t 46)),
      E (.st 4 (.t 53) (.t 51))])))
   (.ops [S 54 (.bin .add .none (.t 39) (xI 1)),
     S 39 (.mv (.t 54))])))))))
 (.seq (.ops [S 55 (.mv (.t 7)),
   S 2 (.mv (.t 55)),
   S 3 (.mv (xB true))])
 (.ret))))))),
 [.tmp 2, .tmp 3], false, false, false⟩
/- (*sibyl/ring.Ring[sibyl/api.Command]).Drop -/
def d_ring_Ring_Drop : DFn := ⟨1,
 .seq (.ops [S 2 (.new true [(eI 0), (eI 0), (eI 0), (eI 0), (eI 0), (eI 0), (eI 0), (eI 0), (eI 0), (eI 0), (eI 0), (.full []), (eI 0), (eB false)]),
   S 3 (.mv (xB false))])
 (.seq (.ops [S 8 (.mv (.t 0)),
   S 9 (.mv (.t 0)),
   S 10 (.call n_ring_Ring_Low [(.t 9)]),
   S 11 (.call n_ring_Ring_Get [(.t 8), (.t 10)]),
   S 7 (.mv (.t 11)),
   S 12 (.ext (.t 7) 0),
   S 13 (.ext (.t 7) 1),
   S 4 (.new true [(eI 0), (eI 0), (eI 0), (eI 0), (eI 0), (eI 0), (eI 0), (eI 0), (eI 0), (eI 0), (eI 0), (.full []), (eI 0), (eB false)]),
   E (.st 14 (.t 4) (.t 12)),
   S 5 (.mv (.t 13))])
 (.seq (.seq (.ops [S 14 (.mv (.t 5)),
   S 15 (.mv (.t 14)),
   ⟨(some 16), .mv (.t 0), (some (15, true)), []⟩,
   ⟨(some 17), .nz (.t 16), (some (15, true)), []⟩,
   ⟨(some 18), .fld 1 (.t 17), (some (15, true)), []⟩,
   ⟨(some 19), .ld false 1 (.t 18), (some (15, true)), []⟩,
   ⟨(some 20), .bin .lss .none (.t 19) (xI 4611686018427387904), (some (15, true)), []⟩,
   S 21 (.pick (.t 15) (.t 20) (xB false))])
 (.cond (.t 21)
  (.seq (.ops [S 22 (.mv (.t 0)),
    S 23 (.mv (.t 0)),
    S 24 (.nz (.t 23)),
    S 25 (.fld 1 (.t 24)),
    S 26 (.ld false 1 (.t 25)),
    S 27 (.call n_ring_Ring_at [(.t 22), (.t 26)]),
    S 28 (.build [(eI 0), (eI 0), (eI 0), (eI 0), (eI 0), (eI 0), (eI 0), (eI 0), (eI 0), (eI 0), (eI 0), (.full []), (eI 0), (eB false), (eB false)] []),
    S 29 (.nz (.t 27)),
    E (.st 15 (.t 29) (.t 28))])
  (.seq (.ops [S 30 (.mv (.t 0)),
    S 31 (.nz (.t 30)),
    S 32 (.fld 1 (.t 31)),
    S 33 (.ld false 1 (.t 32)),
    S 34 (.bin .add .none (.t 33) (xI 1)),
    S 35 (.nz (.t 30)),
    S 36 (.fld 1 (.t 35)),
    E (.st 1 (.t 36) (.t 34))])
  (.seq (.ops [S 37 (.ld true 14 (.t 4)),
    E (.st 14 (.t 2) (.t 37)),
    S 3 (.mv (xB true))])
  (.ret))))
  (.skip)))
 (.seq (.ops [S 6 (.new true [(eI 0), (eI 0), (eI 0), (eI 0), (eI 0), (eI 0), (eI 0), (eI 0), (eI 0), (eI 0), (eI 0), (.full []), (eI 0), (eB false)])])
 (.seq (.ops [S 38 (.ld true 14 (.t 6)),
   E (.st 14 (.t 2) (.t 38)),
   S 3 (.mv (xB false))])
 (.ret))))),
 [.cell 2 true 14, .tmp 3], false, false, false⟩
/- (*sibyl/ring.Ring[sibyl/api.Out]).Drop -/
def d_ring_Ring_Drop_41 : DFn := ⟨1,
 .seq (.ops [S 2 (.new true [(.full []), (.full []), (.full []), (.full [])]),
   S 3 (.mv (xB false))])
 (.seq (.ops [S 8 (.mv (.t 0)),
   S 9 (.mv (.t 0)),
   S 10 (.call n_ring_Ring_Low_58 [(.t 9)]),
   S 11 (.call n_ring_Ring_Get_57 [(.t 8), (.t 10)]),
   S 7 (.mv (.t 11)),
   S 12 (.ext (.t 7) 0),
   S 13 (.ext (.t 7) 1),
   S 4 (.new true [(.full []), (.full []), (.full []), (.full [])]),
   E (.st 4 (.t 4) (.t 12)),
   S 5 (.mv (.t 13))])
 (.seq (.seq (.ops [S 14 (.mv (.t 5)),
   S 15 (.mv (.t 14)),
   ⟨(some 16), .mv (.t 0), (some (15, true)), []⟩,
   ⟨(some 17), .nz (.t 16), (some (15, true)), []⟩,
   ⟨(some 18), .fld 1 (.t 17), (some (15, true)), []⟩,
   ⟨(some 19), .ld false 1 (.t 18), (some (15, true)), []⟩,
   ⟨(some 20), .bin .lss .none (.t 19) (xI 4611686018427387904), (some (15, true)), []⟩,
   S 21 (.pick (.t 15) (.t 20) (xB false))])
 (.cond (.t 21)
  (.seq (.ops [S 22 (.mv (.t 0)),
    S 23 (.mv (.t 0)),
    S 24 (.nz (.t 23)),
    S 25 (.fld 1 (.t 24)),
    S 26 (.ld false 1 (.t 25)),
    S 27 (.call n_ring_Ring_at_54 [(.t 22), (.t 26)]),
    S 28 (.build [(.full []), (.full []), (.full []), (.full []), (eB false)] []),
    S 29 (.nz (.t 27)),
    E (.st 5 (.t 29) (.t 28))])
  (.seq (.ops [S 30 (.mv (.t 0)),
    S 31 (.nz (.t 30)),
    S 32 (.fld 1 (.t 31)),
    S 33 (.ld false 1 (.t 32)),
    S 34 (.bin .add .none (.t 33) (xI 1)),
    S 35 (.nz (.t 30)),
    S 36 (.fld 1 (.t 35)),
    E (.st 1 (.t 36) (.t 34))])
  (.seq (.ops [S 37 (.ld true 4 (.t 4)),
    E (.st 4 (.t 2) (.t 37)),
    S 3 (.mv (xB true))])
  (.ret))))
  (.skip)))
 (.seq (.ops [S 6 (.new true [(.full []), (.full []), (.full []), (.full [])])])
 (.seq (.ops [S 38 (.ld true 4 (.t 6)),
   E (.st 4 (.t 2) (.t 38)),
   S 3 (.mv (xB false))])
 (.ret))))),
 [.cell 2 true 4, .tmp 3], false, false, false⟩
/- (*sibyl/ring.Ring[sibyl/api.Command]).Low -/
def d_ring_Ring_Low : DFn := ⟨1,
 .seq (.ops [S 2 (.mv (xI 0))])
 (.seq (.seq (.ops [S 3 (.mv (.t 0)),
   S 4 (.bin .eql .ptr (.t 3) (.v .nilp))])
 (.cond (.t 4)
  (.seq (.ops [S 2 (.mv (xI 0))])
  (.ret))
  (.skip)))
 (.seq (.ops [S 5 (.mv (.t 0)),
   S 6 (.nz (.t 5)),
   S 7 (.fld 1 (.t 6)),
   S 8 (.ld false 1 (.t 7)),
   S 2 (.mv (.t 8))])
 (.ret))),
 [.tmp 2], false, false, false⟩
/- (*sibyl/log.Log).Config -/
def d_log_Log_Config : DFn := ⟨1,
 .seq (.ops [S 2 (.new true [(eI 0), (eI 0), (eI 0), (eI 0), (eI 0), (eI 0), (eI 0)])])
 (.seq (.seq (.ops [S 3 (.mv (.t 0)),
   S 4 (.bin .eql .ptr (.t 3) (.v .nilp))])
 (.cond (.t 4)
  (.seq (.ops [S 5 (.build [(eI 0), (eI 0), (eI 0), (eI 0), (eI 0), (eI 0), (eI 0)] []),
    E (.st 7 (.t 2) (.t 5))])
  (.ret))
  (.skip)))
 (.seq (.ops [S 6 (.mv (.t 0)),
   S 7 (.nz (.t 6)),
   S 8 (.fld 0 (.t 7)),
   S 9 (.fld 0 (.t 8)),
   S 10 (.ld true 7 (.t 9)),
   E (.st 7 (.t 2) (.t 10))])
 (.ret))),
 [.cell 2 true 7], false, false, false⟩
/- (*sibyl/client.Client).room -/
def d_client_Client_room : DFn := ⟨1,
 .block 0 (.seq (.ops [S 8 (.mv (.t 0)),
    S 9 (.nz (.t 8)),
    S 10 (.fld 15 (.t 9)),
    S 11 (.ld false 1 (.t 10)),
    S 12 (.mv (.t 0)),
    S 13 (.nz (.t 12)),
    S 14 (.fld 0 (.t 13)),
    S 15 (.ld false 1 (.t 14)),
    S 18 (.mv (.t 0)),
    S 19 (.nz (.t 18)),
    S 20 (.fld 0 (.t 19)),
    S 21 (.ld false 1 (.t 20)),
    ⟨(some 16), .call n_log_Log_Low [(.t 15)], none, [(21, .ld false 1 (.t 20), none), (11, .ld false 1 (.t 10), none)]⟩,
    S 17 (.bin .sub .none (.t 11) (.t 16)),
    ⟨(some 22), .call n_log_Log_Config [(.t 21)], none, [(11, .ld false 1 (.t 10), none)]⟩,
    S 23 (.fget 1 1 false (.t 22)),
    S 24 (.bin .geq .none (.t 17) (.t 23)),
    S 7 (.mv (.t 24))])
  (.cond (.t 7)
   (.ops [S 25 (.mv (.t 0)),
     S 26 (.call n_client_Client_end [(.t 25), (xI 16), (xI 0)])])
   (.seq (.ops [S 28 (.mv (.t 0)),
     S 29 (.nz (.t 28)),
     S 30 (.fld 1 (.t 29)),
     S 31 (.fld 0 (.t 30)),
     S 32 (.ld false 1 (.t 31)),
     S 33 (.bin .eql .none (.t 32) (xI 1)),
     S 27 (.mv (.t 33))])
   (.cond (.t 27)
    (.ops [S 34 (.mv (.t 0)),
      S 35 (.mv (.t 0)),
      S 36 (.mkf (.func n_client_Client_slot) [(.t 35)] []),
      S 37 (.nz (.t 34)),
      S 38 (.fld 14 (.t 37)),
      E (.st 1 (.t 38) (.t 36))])
    (.ops [S 2 (.mv (.t 0)),
      S 3 (.mv (.t 0)),
      S 4 (.mkf (.func n_client_Client_take) [(.t 3)] []),
      S 5 (.nz (.t 2)),
      S 6 (.fld 14 (.t 5)),
      E (.st 1 (.t 6) (.t 4))]))))),
 [], false, false, false⟩
/- sibyl/query.Parse -/
def d_query_Parse : DFn := ⟨1,
 .seq (.ops [S 2 (.new true [(.full []), (.full []), (eI 0), (eB false)]),
   S 3 (.new false [(eI 0)]),
   S 4 (.new false [(eI 0)])])
 (.seq (.ops [S 8 (.mv (.t 0)),
   S 9 (.call n_lex_Lex [(.t 8)]),
   S 7 (.mv (.t 9)),
   S 10 (.ext (.t 7) 0),
   S 11 (.ext (.t 7) 1),
   S 12 (.ext (.t 7) 2),
   S 5 (.mv (.t 10)),
   E (.st 1 (.t 3) (.t 11)),
   E (.st 1 (.t 4) (.t 12))])
 (.seq (.seq (.ops [S 13 (.ld false 1 (.t 4)),
   S 14 (.bin .neq .none (.t 13) (xI 0))])
 (.cond (.t 14)
  (.seq (.ops [S 15 (.build [(.full []), (.full []), (eI 0), (eB false)] []),
    S 16 (.ld false 1 (.t 3)),
    S 17 (.ld false 1 (.t 4)),
    ⟨none, .st 4 (.t 2) (.t 15), none, [(17, .ld false 1 (.t 4), none), (16, .ld false 1 (.t 3), none)]⟩,
    ⟨none, .st 1 (.t 3) (.t 16), none, [(17, .ld false 1 (.t 4), none)]⟩,
    E (.st 1 (.t 4) (.t 17))])
  (.ret))
  (.skip)))
 (.seq (.ops [S 18 (.mkf (.func 62) [] [(.t 2), (.t 3), (.t 4)])])
 (.seq (.ops [⟨none, .mv (.v .nili), none, [(18, .mkf (.func 62) [] [(.t 2), (.t 3), (.t 4)], none)]⟩])
 (.block 900002 (.seq (.block 900001 (.seq (.block 900000 (.seq (.ops [S 19 (.mv (.t 5)),
      S 20 (.build [(.full []), (eI 0)] [(0, 1, (.t 19))]),
      S 21 (.mv (.t 0)),
      S 22 (.len 1 (.t 21)),
      S 23 (.build [(.full []), (eI 0), (eI 0), (eI 0)] [(0, 2, (.t 20)), (2, 1, (.t 22))]),
      S 24 (.box true 4 (.t 23)),
      S 6 (.mv (.t 24))])
    (.seq (.seq (.ops [S 25 (.mv (.t 6))])
    (.seq (.ops [S 3000 (.may (.v (.fn (.func 63) [] [])) [(.t 25)]),
      S 3001 (.ext (.t 3000) 0)])
    (.cond (.t 3001)
     (.seq (.ops [S 3002 (.ext (.t 3000) 1),
       S 3000 (.mv (.v (.tup []))),
       S 3001 (.mv (.v (.tup [])))])
     (.exit 900001))
     (.seq (.ops [S 26 (.ext (.t 3000) 1),
       S 3000 (.mv (.v (.tup []))),
       S 3001 (.mv (.v (.tup [])))])
     (.seq (.ops [S 27 (.mv (.t 0))])
     (.seq (.ops [S 28 (.len 1 (.t 27))])
     (.seq (.ops [E (.st 4 (.t 2) (.t 26))])
     (.seq (.ops [E (.st 1 (.t 3) (.t 28))])
     (.seq (.ops [E (.st 1 (.t 4) (xI 0))])
     (.skip))))))))))
    (.exit 900000))))
   (.seq (.ops [E (.call n_Parse1_e [(.t 2), (.t 3), (.t 4), (.v (.p (.agg [])))])])
   (.exit 900002))))
  (.ops [E (.call n_Parse1_p [(.t 2), (.t 3), (.t 4), (.t 3002), (.v (.p (.agg [(.bool false)])))])]))))))),
 [.cell 2 true 4, .cell 3 false 1, .cell 4 false 1], false, false, false⟩
/- sibyl/sibylref03.Printable -/
def d_Printable : DFn := ⟨1,
 .seq (.ops [S 1 (.box true 4 (.t 0)),
   S 2 (.mv (xB false))])
 (.seq (.seq (.ops [S 3 (.mv (xI 0))])
 (.block 0 (.loop [1, 3] (.seq (.seq (.ops [S 8 (.mv (.t 3)),
     S 9 (.fld 0 (.t 1)),
     S 10 (.ld false 1 (.t 9)),
     S 11 (.len 0 (.t 10)),
     S 12 (.bin .lss .none (.t 8) (.t 11))])
   (.cond (.t 12)
    (.skip)
    (.exit 0)))
   (.seq (.block 1 (.seq (.ops [S 15 (.fld 0 (.t 1)),
      S 16 (.ld false 1 (.t 15)),
      S 17 (.mv (.t 3)),
      S 18 (.ixa 4 (.t 16) (.t 17)),
      S 19 (.fld 1 (.t 18)),
      S 20 (.ld false 1 (.t 19)),
      S 21 (.call n_rName [(.t 20)]),
      S 4 (.mv (.t 21))])
    (.seq (.ops [S 22 (.mv (.t 4)),
      S 23 (.un .not (.t 22)),
      S 24 (.mv (.t 23)),
      ⟨(some 25), .fld 0 (.t 1), (some (24, false)), []⟩,
      ⟨(some 26), .ld false 1 (.t 25), (some (24, false)), []⟩,
      ⟨(some 27), .mv (.t 3), (some (24, false)), []⟩,
      ⟨(some 28), .ixa 4 (.t 26) (.t 27), (some (24, false)), []⟩,
      ⟨(some 29), .fld 0 (.t 28), (some (24, false)), []⟩,
      ⟨(some 30), .ld false 1 (.t 29), (some (24, false)), []⟩,
      ⟨(some 31), .bin .lss .none (.t 30) (xI 0), (some (24, false)), []⟩,
      S 32 (.pick (.t 24) (xB true) (.t 31)),
      S 33 (.mv (.t 32)),
      ⟨(some 34), .fld 0 (.t 1), (some (33, false)), []⟩,
      ⟨(some 35), .ld false 1 (.t 34), (some (33, false)), []⟩,
      ⟨(some 36), .mv (.t 3), (some (33, false)), []⟩,
      ⟨(some 37), .ixa 4 (.t 35) (.t 36), (some (33, false)), []⟩,
      ⟨(some 38), .fld 0 (.t 37), (some (33, false)), []⟩,
      ⟨(some 39), .ld false 1 (.t 38), (some (33, false)), []⟩,
      ⟨(some 40), .bin .gtr .none (.t 39) (xI 7), (some (33, false)), []⟩,
      S 41 (.pick (.t 33) (xB true) (.t 40))])
    (.cond (.t 41)
     (.seq (.ops [S 2 (.mv (xB false))])
     (.ret))
     (.skip)))))
   (.ops [S 13 (.mv (.t 3)),
     S 14 (.bin .add .none (.t 13) (xI 1)),
     S 3 (.mv (.t 14))]))))))
 (.seq (.seq (.ops [S 5 (.mv (xI 0))])
 (.block 2 (.loop [1, 5] (.seq (.seq (.ops [S 42 (.mv (.t 5)),
     S 43 (.fld 1 (.t 1)),
     S 44 (.ld false 1 (.t 43)),
     S 45 (.len 0 (.t 44)),
     S 46 (.bin .lss .none (.t 42) (.t 45))])
   (.cond (.t 46)
    (.skip)
    (.exit 2)))
   (.seq (.block 3 (.seq (.ops [S 49 (.fld 1 (.t 1)),
      S 50 (.ld false 1 (.t 49)),
      S 51 (.mv (.t 5)),
      S 52 (.ixa 3 (.t 50) (.t 51)),
      S 53 (.fld 1 (.t 52)),
      S 54 (.ld false 1 (.t 53)),
      S 55 (.call n_rSound [(.t 54)]),
      S 6 (.mv (.t 55))])
    (.seq (.ops [S 56 (.fld 1 (.t 1)),
      S 57 (.ld false 1 (.t 56)),
      S 58 (.mv (.t 5)),
      S 59 (.ixa 3 (.t 57) (.t 58)),
      S 60 (.fld 2 (.t 59)),
      S 61 (.ld false 1 (.t 60)),
      S 62 (.call n_rSound [(.t 61)]),
      S 7 (.mv (.t 62))])
    (.seq (.ops [S 63 (.mv (.t 6)),
      S 64 (.un .not (.t 63)),
      S 65 (.mv (.t 64)),
      ⟨(some 66), .mv (.t 7), (some (65, false)), []⟩,
      ⟨(some 67), .un .not (.t 66), (some (65, false)), []⟩,
      S 68 (.pick (.t 65) (xB true) (.t 67)),
      S 69 (.mv (.t 68)),
      ⟨(some 70), .fld 1 (.t 1), (some (69, false)), []⟩,
      ⟨(some 71), .ld false 1 (.t 70), (some (69, false)), []⟩,
      ⟨(some 72), .mv (.t 5), (some (69, false)), []⟩,
      ⟨(some 73), .ixa 3 (.t 71) (.t 72), (some (69, false)), []⟩,
      ⟨(some 74), .fld 0 (.t 73), (some (69, false)), []⟩,
      ⟨(some 75), .ld false 1 (.t 74), (some (69, false)), []⟩,
      ⟨(some 76), .bin .lss .none (.t 75) (xI 1), (some (69, false)), []⟩,
      S 77 (.pick (.t 69) (xB true) (.t 76)),
      S 78 (.mv (.t 77)),
      ⟨(some 79), .fld 1 (.t 1), (some (78, false)), []⟩,
      ⟨(some 80), .ld false 1 (.t 79), (some (78, false)), []⟩,
      ⟨(some 81), .mv (.t 5), (some (78, false)), []⟩,
      ⟨(some 82), .ixa 3 (.t 80) (.t 81), (some (78, false)), []⟩,
      ⟨(some 83), .fld 0 (.t 82), (some (78, false)), []⟩,
      ⟨(some 84), .ld false 1 (.t 83), (some (78, false)), []⟩,
      ⟨(some 85), .bin .gtr .none (.t 84) (xI 6), (some (78, false)), []⟩,
      S 86 (.pick (.t 78) (xB true) (.t 85))])
    (.cond (.t 86)
     (.seq (.ops [S 2 (.mv (xB false))])
     (.ret))
     (.skip))))))
   (.ops [S 47 (.mv (.t 5)),
     S 48 (.bin .add .none (.t 47) (xI 1)),
     S 5 (.mv (.t 48))]))))))
 (.seq (.ops [S 87 (.fld 0 (.t 1)),
   S 88 (.ld false 1 (.t 87)),
   S 89 (.len 0 (.t 88)),
   S 90 (.bin .gtr .none (.t 89) (xI 0)),
   S 91 (.mv (.t 90)),
   ⟨(some 92), .fld 2 (.t 1), (some (91, true)), []⟩,
   ⟨(some 93), .ld false 1 (.t 92), (some (91, true)), []⟩,
   ⟨(some 94), .bin .geq .none (.t 93) (xI 0), (some (91, true)), []⟩,
   S 95 (.pick (.t 91) (.t 94) (xB false)),
   S 2 (.mv (.t 95))])
 (.ret)))),
 [.tmp 2], false, true, false⟩
/- sibyl/sibylref03.Text -/
def d_Text : DFn := ⟨1,
 .seq (.ops [S 2 (.mv (.v (.p (.str (bs [])))))])
 (.seq (.ops [S 3 (.nils 2 true)])
 (.seq (.seq (.ops [S 4 (.mv (xI 0))])
 (.block 0 (.loop [0, 3, 4] (.seq (.seq (.ops [S 10 (.mv (.t 4)),
     S 11 (.mv (.t 0)),
     S 12 (.len 0 (.t 11)),
     S 13 (.bin .lss .none (.t 10) (.t 12))])
   (.cond (.t 13)
    (.skip)
    (.exit 0)))
   (.seq (.block 1 (.seq (.ops [S 16 (.mv (.t 0)),
      S 17 (.mv (.t 4)),
      S 18 (.ixa 5 (.t 16) (.t 17)),
      S 19 (.ld true 5 (.t 18)),
      S 5 (.new true [(eI 0), (eI 0), (.p (.str (bs []))), (eI 0), (eI 0)]),
      E (.st 5 (.t 5) (.t 19))])
    (.seq (.ops [S 20 (.ld true 5 (.t 5)),
      S 21 (.call n_rtakes [(.t 20)]),
      S 6 (.mv (.t 21))])
    (.seq (.ops [S 22 (.mv (.t 3)),
      S 23 (.mv (.t 3)),
      S 24 (.len 0 (.t 23)),
      S 25 (.mv (.t 6)),
      S 26 (.bin .sub .none (.t 24) (.t 25)),
      S 27 (.slc 2 (.t 22) none (some (.t 26)) none),
      S 7 (.mv (.t 27))])
    (.seq (.ops [S 28 (.mv (.t 3)),
      S 29 (.mv (.t 3)),
      S 30 (.len 0 (.t 29)),
      S 31 (.mv (.t 6)),
      S 32 (.bin .sub .none (.t 30) (.t 31)),
      S 33 (.slc 2 (.t 28) (some (.t 32)) none none),
      S 8 (.mv (.t 33))])
    (.seq (.ops [S 34 (.build [(.p (.str (bs []))), (eI 0)] [(1, 1, (xI 4))]),
      S 9 (.new true [(.p (.str (bs []))), (eI 0)]),
      E (.st 2 (.t 9) (.t 34))])
    (.seq (.seq (.ops [S 35 (.fld 0 (.t 5)),
      S 36 (.ld false 1 (.t 35))])
    (.block 2 (.seq (.ops [S 49 (.bin .eql .none (.t 36) (xI 6)),
       S 48 (.mv (.t 49))])
     (.cond (.t 48)
      (.ops [S 50 (.fld 1 (.t 5)),
        S 51 (.ld false 1 (.t 50)),
        S 52 (.call n_digits [(.t 51)]),
        S 53 (.fld 0 (.t 9)),
        E (.st 1 (.t 53) (.t 52))])
      (.seq (.ops [S 55 (.bin .eql .none (.t 36) (xI 8)),
        S 54 (.mv (.t 55))])
      (.cond (.t 54)
       (.ops [S 56 (.fld 2 (.t 5)),
         S 57 (.ld false 1 (.t 56)),
         S 58 (.bin .add .none (.v (.p (.str (bs [35])))) (.t 57)),
         S 59 (.fld 0 (.t 9)),
         E (.st 1 (.t 59) (.t 58))])
       (.seq (.ops [S 61 (.bin .eql .none (.t 36) (xI 7)),
         S 60 (.mv (.t 61))])
       (.cond (.t 60)
        (.ops [S 62 (.fld 2 (.t 5)),
          S 63 (.ld false 1 (.t 62)),
          S 64 (.bin .add .none (.t 63) (.v (.p (.str (bs [46]))))),
          S 65 (.fld 3 (.t 5)),
          S 66 (.ld false 1 (.t 65)),
          S 67 (.fld 3 (.t 5)),
          S 68 (.ld false 1 (.t 67)),
          S 69 (.bin .add .none (.t 68) (xI 1)),
          S 70 (.sls (.v (.p (.str (bs [120, 121, 122, 119])))) (some (.t 66)) (some (.t 69))),
          S 71 (.bin .add .none (.t 64) (.t 70)),
          S 72 (.fld 0 (.t 9)),
          E (.st 1 (.t 72) (.t 71))])
        (.seq (.ops [S 74 (.bin .eql .none (.t 36) (xI 9)),
          S 73 (.mv (.t 74))])
        (.cond (.t 73)
         (.ops [S 75 (.mv (.t 8)),
           S 76 (.ixa 2 (.t 75) (xI 0)),
           S 77 (.ld true 2 (.t 76)),
           S 78 (.call n_held [(.t 77), (xI 3)]),
           S 79 (.bin .add .none (.v (.p (.str (bs [45])))) (.t 78)),
           S 80 (.build [(.p (.str (bs []))), (eI 0)] [(0, 1, (.t 79)), (1, 1, (xI 3))]),
           E (.st 2 (.t 9) (.t 80))])
         (.seq (.ops [S 82 (.bin .eql .none (.t 36) (xI 1)),
           S 81 (.mv (.t 82))])
         (.cond (.t 81)
          (.ops [S 83 (.mv (.t 8)),
            S 84 (.ixa 2 (.t 83) (xI 0)),
            S 85 (.ld true 2 (.t 84)),
            S 88 (.mv (.t 8)),
            S 89 (.ixa 2 (.t 88) (xI 1)),
            S 90 (.ld true 2 (.t 89)),
            ⟨(some 86), .call n_held [(.t 85), (xI 1)], none, [(90, .ld true 2 (.t 89), none)]⟩,
            S 87 (.bin .add .none (.t 86) (.v (.p (.str (bs [32, 43, 32]))))),
            S 91 (.call n_held [(.t 90), (xI 2)]),
            S 92 (.bin .add .none (.t 87) (.t 91)),
            S 93 (.build [(.p (.str (bs []))), (eI 0)] [(0, 1, (.t 92)), (1, 1, (xI 1))]),
            E (.st 2 (.t 9) (.t 93))])
          (.seq (.ops [S 95 (.bin .eql .none (.t 36) (xI 2)),
            S 94 (.mv (.t 95))])
          (.cond (.t 94)
           (.ops [S 96 (.mv (.t 8)),
             S 97 (.ixa 2 (.t 96) (xI 0)),
             S 98 (.ld true 2 (.t 97)),
             S 101 (.mv (.t 8)),
             S 102 (.ixa 2 (.t 101) (xI 1)),
             S 103 (.ld true 2 (.t 102)),
             ⟨(some 99), .call n_held [(.t 98), (xI 1)], none, [(103, .ld true 2 (.t 102), none)]⟩,
             S 100 (.bin .add .none (.t 99) (.v (.p (.str (bs [32, 45, 32]))))),
             S 104 (.call n_held [(.t 103), (xI 2)]),
             S 105 (.bin .add .none (.t 100) (.t 104)),
             S 106 (.build [(.p (.str (bs []))), (eI 0)] [(0, 1, (.t 105)), (1, 1, (xI 1))]),
             E (.st 2 (.t 9) (.t 106))])
           (.seq (.ops [S 108 (.bin .eql .none (.t 36) (xI 3)),
             S 107 (.mv (.t 108))])
           (.cond (.t 107)
            (.ops [S 109 (.mv (.t 8)),
              S 110 (.ixa 2 (.t 109) (xI 0)),
              S 111 (.ld true 2 (.t 110)),
              S 114 (.mv (.t 8)),
              S 115 (.ixa 2 (.t 114) (xI 1)),
              S 116 (.ld true 2 (.t 115)),
              ⟨(some 112), .call n_held [(.t 111), (xI 2)], none, [(116, .ld true 2 (.t 115), none)]⟩,
              S 113 (.bin .add .none (.t 112) (.v (.p (.str (bs [32, 42, 32]))))),
              S 117 (.call n_held [(.t 116), (xI 3)]),
              S 118 (.bin .add .none (.t 113) (.t 117)),
              S 119 (.build [(.p (.str (bs []))), (eI 0)] [(0, 1, (.t 118)), (1, 1, (xI 2))]),
              E (.st 2 (.t 9) (.t 119))])
            (.seq (.ops [S 121 (.bin .eql .none (.t 36) (xI 4)),
              S 120 (.mv (.t 121))])
            (.cond (.t 120)
             (.ops [S 122 (.mv (.t 8)),
               S 123 (.ixa 2 (.t 122) (xI 0)),
               S 124 (.ld true 2 (.t 123)),
               S 127 (.mv (.t 8)),
               S 128 (.ixa 2 (.t 127) (xI 1)),
               S 129 (.ld true 2 (.t 128)),
               ⟨(some 125), .call n_held [(.t 124), (xI 2)], none, [(129, .ld true 2 (.t 128), none)]⟩,
               S 126 (.bin .add .none (.t 125) (.v (.p (.str (bs [32, 47, 32]))))),
               S 130 (.call n_held [(.t 129), (xI 3)]),
               S 131 (.bin .add .none (.t 126) (.t 130)),
               S 132 (.build [(.p (.str (bs []))), (eI 0)] [(0, 1, (.t 131)), (1, 1, (xI 2))]),
               E (.st 2 (.t 9) (.t 132))])
             (.ops [S 37 (.mv (.t 8)),
               S 38 (.ixa 2 (.t 37) (xI 0)),
               S 39 (.ld true 2 (.t 38)),
               S 42 (.mv (.t 8)),
               S 43 (.ixa 2 (.t 42) (xI 1)),
               S 44 (.ld true 2 (.t 43)),
               ⟨(some 40), .call n_held [(.t 39), (xI 2)], none, [(44, .ld true 2 (.t 43), none)]⟩,
               S 41 (.bin .add .none (.t 40) (.v (.p (.str (bs [32, 37, 32]))))),
               S 45 (.call n_held [(.t 44), (xI 3)]),
               S 46 (.bin .add .none (.t 41) (.t 45)),
               S 47 (.build [(.p (.str (bs []))), (eI 0)] [(0, 1, (.t 46)), (1, 1, (xI 2))]),
               E (.st 2 (.t 9) (.t 47))])))))))))))))))))))
    (.ops [S 133 (.lit 2 true [] []),
      S 134 (.mv (.t 7)),
      S 136 (.ld true 2 (.t 9)),
      S 137 (.lit 2 true [[(.p (.str (bs []))), (eI 0)]] [(0, (.t 136))]),
      ⟨(some 135), .app 2 true 24 (.t 133) (.t 134), none, [(136, .ld true 2 (.t 9), none)]⟩,
      S 138 (.app 2 true 24 (.t 135) (.t 137)),
      S 3 (.mv (.t 138))]))))))))
   (.ops [S 14 (.mv (.t 4)),
     S 15 (.bin .add .none (.t 14) (xI 1)),
     S 4 (.mv (.t 15))]))))))
 (.seq (.ops [S 139 (.mv (.t 3)),
   S 140 (.ixa 2 (.t 139) (xI 0)),
   S 141 (.fld 0 (.t 140)),
   S 142 (.ld false 1 (.t 141)),
   S 2 (.mv (.t 142))])
 (.ret)))),
 [.tmp 2], false, true, false⟩
/- sibyl/sibylref03.digits -/
def d_digits : DFn := ⟨1,
 .seq (.ops [S 2 (.mv (.v (.p (.str (bs [])))))])
 (.seq (.ops [S 3 (.mv (.v (.p (.str (bs [])))))])
 (.seq (.block 0 (.loop [0, 3] (.seq (.seq (.ops [S 4 (.mv (.t 0)),
     S 5 (.bin .geq .none (.t 4) (xI 10))])
   (.cond (.t 5)
    (.skip)
    (.exit 0)))
   (.block 1 (.seq (.ops [S 6 (.mv (.t 0)),
      S 7 (.bin .rem .none (.t 6) (xI 10)),
      S 8 (.bin .add .none (xI 48) (.t 7)),
      S 9 (.conv .u8 (.t 8)),
      S 10 (.lit 1 false [[(.p (.int .u8 0))]] [(0, (.t 9))]),
      S 11 (.strb (.t 10)),
      S 12 (.mv (.t 3)),
      S 13 (.bin .add .none (.t 11) (.t 12)),
      S 3 (.mv (.t 13))])
    (.ops [S 14 (.mv (.t 0)),
      S 15 (.bin .quo .none (.t 14) (xI 10)),
      S 0 (.mv (.t 15))]))))))
 (.seq (.ops [S 16 (.mv (.t 0)),
   S 17 (.bin .add .none (xI 48) (.t 16)),
   S 18 (.conv .u8 (.t 17)),
   S 19 (.lit 1 false [[(.p (.int .u8 0))]] [(0, (.t 18))]),
   S 20 (.strb (.t 19)),
   S 21 (.mv (.t 3)),
   S 22 (.bin .add .none (.t 20) (.t 21)),
   S 2 (.mv (.t 22))])
 (.ret)))),
 [.tmp 2], false, true, false⟩
/- (*sibyl/sibylref03.Row).Next -/
def d_Next : DFn := ⟨2,
 .seq (.ops [S 4 (.mv (xI 0))])
 (.seq (.seq (.ops [S 5 (.mv (.t 0)),
   S 6 (.nz (.t 5)),
   S 7 (.fld 1 (.t 6)),
   S 8 (.ld false 1 (.t 7)),
   S 9 (.mv (.t 0)),
   S 10 (.nz (.t 9)),
   S 11 (.fld 0 (.t 10)),
   S 12 (.ld false 1 (.t 11)),
   S 13 (.len 0 (.t 12)),
   S 14 (.bin .geq .none (.t 8) (.t 13))])
 (.cond (.t 14)
  (.seq (.ops [S 4 (.mv (xI 0))])
  (.ret))
  (.skip)))
 (.seq (.ops [S 15 (.mv (.t 0)),
   S 16 (.nz (.t 15)),
   S 17 (.fld 1 (.t 16)),
   S 18 (.ld false 1 (.t 17)),
   S 19 (.bin .add .none (.t 18) (xI 1)),
   S 20 (.nz (.t 15)),
   S 21 (.fld 1 (.t 20)),
   E (.st 1 (.t 21) (.t 19))])
 (.seq (.ops [S 22 (.mv (.t 0)),
   S 23 (.nz (.t 22)),
   S 24 (.fld 0 (.t 23)),
   S 25 (.ld false 1 (.t 24)),
   S 26 (.mv (.t 0)),
   S 27 (.nz (.t 26)),
   S 28 (.fld 1 (.t 27)),
   S 29 (.ld false 1 (.t 28)),
   S 30 (.bin .sub .none (.t 29) (xI 1)),
   S 31 (.ixa 1 (.t 25) (.t 30)),
   S 32 (.ld false 1 (.t 31)),
   S 33 (.mv (.t 1)),
   S 34 (.bin .rem .none (.t 32) (.t 33)),
   S 35 (.mv (.t 1)),
   S 36 (.bin .add .none (.t 34) (.t 35)),
   S 37 (.mv (.t 1)),
   S 38 (.bin .rem .none (.t 36) (.t 37)),
   S 4 (.mv (.t 38))])
 (.ret)))),
 [.tmp 4], false, false, false⟩
/- (*sibyl/sibylref03.Row).Codes -/
def d_Codes : DFn := ⟨3,
 .seq (.ops [S 6 (.nils 5 true)])
 (.seq (.ops [S 7 (.nils 5 true)])
 (.seq (.seq (.ops [S 11 (.mv (.t 0)),
   S 12 (.call n_Next [(.t 11), (xI 4)])])
 (.block 0 (.seq (.ops [S 25 (.bin .eql .none (.t 12) (xI 0)),
    S 24 (.mv (.t 25))])
  (.cond (.t 24)
   (.ops [S 26 (.mv (.t 0)),
     S 27 (.call n_Next [(.t 26), (xI 7)]),
     S 28 (.build [(eI 0), (eI 0), (.p (.str (bs []))), (eI 0), (eI 0)] [(0, 1, (xI 6)), (1, 1, (.t 27))]),
     S 29 (.lit 5 true [[(eI 0), (eI 0), (.p (.str (bs []))), (eI 0), (eI 0)]] [(0, (.t 28))]),
     S 7 (.mv (.t 29))])
   (.ops [S 13 (.mv (.t 1)),
     S 14 (.mv (.t 0)),
     S 15 (.mv (.t 1)),
     S 16 (.len 0 (.t 15)),
     S 20 (.mv (.t 0)),
     S 17 (.call n_Next [(.t 14), (.t 16)]),
     S 18 (.ixa 1 (.t 13) (.t 17)),
     S 19 (.ld false 1 (.t 18)),
     ⟨(some 21), .call n_Next [(.t 20), (xI 2)], none, [(19, .ld false 1 (.t 18), none)]⟩,
     S 22 (.build [(eI 0), (eI 0), (.p (.str (bs []))), (eI 0), (eI 0)] [(0, 1, (xI 7)), (2, 1, (.t 19)), (3, 1, (.t 21))]),
     S 23 (.lit 5 true [[(eI 0), (eI 0), (.p (.str (bs []))), (eI 0), (eI 0)]] [(0, (.t 22))]),
     S 7 (.mv (.t 23))])))))
 (.seq (.seq (.ops [S 8 (.mv (xI 0))])
 (.block 1 (.loop [0, 1, 2, 7, 8] (.seq (.seq (.ops [S 30 (.mv (.t 8)),
     S 31 (.mv (.t 2)),
     S 32 (.bin .lss .none (.t 30) (.t 31)),
     S 33 (.mv (.t 32)),
     ⟨(some 34), .mv (.t 0), (some (33, true)), []⟩,
     ⟨(some 35), .call n_Next [(.t 34), (xI 3)], (some (33, true)), []⟩,
     ⟨(some 36), .bin .eql .none (.t 35) (xI 0), (some (33, true)), []⟩,
     S 37 (.pick (.t 33) (.t 36) (xB false))])
   (.cond (.t 37)
    (.skip)
    (.exit 1)))
   (.seq (.block 2 (.seq (.seq (.ops [S 40 (.mv (.t 0)),
      S 41 (.call n_Next [(.t 40), (xI 5)]),
      S 42 (.bin .eql .none (.t 41) (xI 0))])
    (.cond (.t 42)
     (.seq (.ops [S 43 (.mv (.t 7)),
       S 44 (.build [(eI 0), (eI 0), (.p (.str (bs []))), (eI 0), (eI 0)] [(0, 1, (xI 9))]),
       S 45 (.lit 5 true [[(eI 0), (eI 0), (.p (.str (bs []))), (eI 0), (eI 0)]] [(0, (.t 44))]),
       S 46 (.app 5 true 48 (.t 43) (.t 45)),
       S 7 (.mv (.t 46))])
     (.exit 2))
     (.skip)))
    (.seq (.ops [S 47 (.mv (.t 0)),
      S 48 (.call n_Next [(.t 47), (xI 4)]),
      S 49 (.build [(eI 0), (eI 0), (.p (.str (bs []))), (eI 0), (eI 0)] [(0, 1, (xI 6)), (1, 1, (.t 48))]),
      S 50 (.lit 5 true [[(eI 0), (eI 0), (.p (.str (bs []))), (eI 0), (eI 0)]] [(0, (.t 49))]),
      S 9 (.mv (.t 50))])
    (.seq (.seq (.ops [S 51 (.mv (.t 0)),
      S 52 (.call n_Next [(.t 51), (xI 2)]),
      S 53 (.bin .eql .none (.t 52) (xI 0))])
    (.cond (.t 53)
     (.ops [S 54 (.mv (.t 1)),
       S 55 (.mv (.t 0)),
       S 56 (.mv (.t 1)),
       S 57 (.len 0 (.t 56)),
       S 61 (.mv (.t 0)),
       S 58 (.call n_Next [(.t 55), (.t 57)]),
       S 59 (.ixa 1 (.t 54) (.t 58)),
       S 60 (.ld false 1 (.t 59)),
       ⟨(some 62), .call n_Next [(.t 61), (xI 2)], none, [(60, .ld false 1 (.t 59), none)]⟩,
       S 63 (.build [(eI 0), (eI 0), (.p (.str (bs []))), (eI 0), (eI 0)] [(0, 1, (xI 7)), (2, 1, (.t 60)), (3, 1, (.t 62))]),
       S 64 (.lit 5 true [[(eI 0), (eI 0), (.p (.str (bs []))), (eI 0), (eI 0)]] [(0, (.t 63))]),
       S 9 (.mv (.t 64))])
     (.skip)))
    (.seq (.ops [S 65 (.mv (.t 0)),
      S 66 (.call n_Next [(.t 65), (xI 5)]),
      S 67 (.bin .add .none (xI 1) (.t 66)),
      S 68 (.build [(eI 0), (eI 0), (.p (.str (bs []))), (eI 0), (eI 0)] [(0, 1, (.t 67))]),
      S 10 (.new true [(eI 0), (eI 0), (.p (.str (bs []))), (eI 0), (eI 0)]),
      E (.st 5 (.t 10) (.t 68))])
    (.seq (.ops [S 69 (.mv (.t 0)),
      S 70 (.call n_Next [(.t 69), (xI 2)]),
      S 71 (.bin .eql .none (.t 70) (xI 0))])
    (.cond (.t 71)
     (.ops [S 72 (.mv (.t 7)),
       S 73 (.mv (.t 9)),
       S 75 (.ld true 5 (.t 10)),
       S 76 (.lit 5 true [[(eI 0), (eI 0), (.p (.str (bs []))), (eI 0), (eI 0)]] [(0, (.t 75))]),
       ⟨(some 74), .app 5 true 48 (.t 72) (.t 73), none, [(75, .ld true 5 (.t 10), none)]⟩,
       S 77 (.app 5 true 48 (.t 74) (.t 76)),
       S 7 (.mv (.t 77))])
     (.ops [S 78 (.mv (.t 9)),
       S 79 (.mv (.t 7)),
       S 81 (.ld true 5 (.t 10)),
       S 82 (.lit 5 true [[(eI 0), (eI 0), (.p (.str (bs []))), (eI 0), (eI 0)]] [(0, (.t 81))]),
       ⟨(some 80), .app 5 true 48 (.t 78) (.t 79), none, [(81, .ld true 5 (.t 10), none)]⟩,
       S 83 (.app 5 true 48 (.t 80) (.t 82)),
       S 7 (.mv (.t 83))]))))))))
   (.ops [S 38 (.mv (.t 8)),
     S 39 (.bin .add .none (.t 38) (xI 1)),
     S 8 (.mv (.t 39))]))))))
 (.seq (.ops [S 84 (.mv (.t 7)),
   S 6 (.mv (.t 84))])
 (.ret))))),
 [.tmp 6], true, false, false⟩
/- (*sibyl/ring.Ring[sibyl/api.Command]).at -/
def d_ring_Ring_at : DFn := ⟨2,
 .seq (.ops [S 4 (.mv (.v .nilp))])
 (.seq (.seq (.ops [S 5 (.mv (.t 0)),
   S 6 (.bin .eql .ptr (.t 5) (.v .nilp)),
   S 7 (.mv (.t 6)),
   ⟨(some 8), .mv (.t 1), (some (7, false)), []⟩,
   ⟨(some 9), .mv (.t 0), (some (7, false)), []⟩,
   ⟨(some 10), .nz (.t 9), (some (7, false)), []⟩,
   ⟨(some 11), .fld 1 (.t 10), (some (7, false)), []⟩,
   ⟨(some 12), .ld false 1 (.t 11), (some (7, false)), []⟩,
   ⟨(some 13), .bin .lss .none (.t 8) (.t 12), (some (7, false)), []⟩,
   S 14 (.pick (.t 7) (xB true) (.t 13)),
   S 15 (.mv (.t 14)),
   ⟨(some 16), .mv (.t 1), (some (15, false)), []⟩,
   ⟨(some 17), .mv (.t 0), (some (15, false)), []⟩,
   ⟨(some 18), .nz (.t 17), (some (15, false)), []⟩,
   ⟨(some 19), .fld 1 (.t 18), (some (15, false)), []⟩,
   ⟨(some 20), .ld false 1 (.t 19), (some (15, false)), []⟩,
   ⟨(some 21), .bin .sub .none (.t 16) (.t 20), (some (15, false)), []⟩,
   ⟨(some 22), .mv (.t 0), (some (15, false)), []⟩,
   ⟨(some 23), .nz (.t 22), (some (15, false)), []⟩,
   ⟨(some 24), .fld 0 (.t 23), (some (15, false)), []⟩,
   ⟨(some 25), .ld false 1 (.t 24), (some (15, false)), []⟩,
   ⟨(some 26), .len 0 (.t 25), (some (15, false)), []⟩,
   ⟨(some 27), .bin .geq .none (.t 21) (.t 26), (some (15, false)), []⟩,
   S 28 (.pick (.t 15) (xB true) (.t 27))])
 (.cond (.t 28)
  (.seq (.ops [S 4 (.mv (.v .nilp))])
  (.ret))
  (.skip)))
 (.seq (.ops [S 29 (.mv (.t 0)),
   S 30 (.nz (.t 29)),
   S 31 (.fld 0 (.t 30)),
   S 32 (.ld false 1 (.t 31)),
   S 33 (.mv (.t 1)),
   S 34 (.mv (.t 0)),
   S 35 (.nz (.t 34)),
   S 36 (.fld 0 (.t 35)),
   S 37 (.ld false 1 (.t 36)),
   S 38 (.len 0 (.t 37)),
   S 39 (.bin .rem .none (.t 33) (.t 38)),
   S 40 (.ixa 15 (.t 32) (.t 39)),
   S 4 (.mv (.t 40))])
 (.ret))),
 [.tmp 4], false, false, false⟩
/- (*sibyl/ring.Ring[sibyl/api.Command]).Get -/
def d_ring_Ring_Get : DFn := ⟨2,
 .seq (.ops [S 4 (.new true [(eI 0), (eI 0), (eI 0), (eI 0), (eI 0), (eI 0), (eI 0), (eI 0), (eI 0), (eI 0), (eI 0), (.full []), (eI 0), (eB false)]),
   S 5 (.mv (xB false))])
 (.seq (.ops [S 8 (.mv (.t 0)),
   S 9 (.mv (.t 1)),
   S 10 (.call n_ring_Ring_at [(.t 8), (.t 9)]),
   S 6 (.mv (.t 10))])
 (.seq (.seq (.ops [S 11 (.mv (.t 6)),
   S 12 (.bin .eql .ptr (.t 11) (.v .nilp))])
 (.cond (.t 12)
  (.seq (.ops [S 7 (.new true [(eI 0), (eI 0), (eI 0), (eI 0), (eI 0), (eI 0), (eI 0), (eI 0), (eI 0), (eI 0), (eI 0), (.full []), (eI 0), (eB false)])])
  (.seq (.ops [S 13 (.ld true 14 (.t 7)),
    E (.st 14 (.t 4) (.t 13)),
    S 5 (.mv (xB false))])
  (.ret)))
  (.skip)))
 (.seq (.ops [S 14 (.mv (.t 6)),
   S 15 (.nz (.t 14)),
   S 16 (.fld 0 (.t 15)),
   S 17 (.ld true 14 (.t 16)),
   S 18 (.mv (.t 6)),
   S 19 (.nz (.t 18)),
   S 20 (.fld 14 (.t 19)),
   S 21 (.ld false 1 (.t 20)),
   ⟨none, .st 14 (.t 4) (.t 17), none, [(21, .ld false 1 (.t 20), none)]⟩,
   S 5 (.mv (.t 21))])
 (.ret)))),
 [.cell 4 true 14, .tmp 5], false, false, false⟩
/- (*sibyl/ring.Ring[sibyl/api.Out]).at -/
def d_ring_Ring_at_54 : DFn := ⟨2,
 .seq (.ops [S 4 (.mv (.v .nilp))])
 (.seq (.seq (.ops [S 5 (.mv (.t 0)),
   S 6 (.bin .eql .ptr (.t 5) (.v .nilp)),
   S 7 (.mv (.t 6)),
   ⟨(some 8), .mv (.t 1), (some (7, false)), []⟩,
   ⟨(some 9), .mv (.t 0), (some (7, false)), []⟩,
   ⟨(some 10), .nz (.t 9), (some (7, false)), []⟩,
   ⟨(some 11), .fld 1 (.t 10), (some (7, false)), []⟩,
   ⟨(some 12), .ld false 1 (.t 11), (some (7, false)), []⟩,
   ⟨(some 13), .bin .lss .none (.t 8) (.t 12), (some (7, false)), []⟩,
   S 14 (.pick (.t 7) (xB true) (.t 13)),
   S 15 (.mv (.t 14)),
   ⟨(some 16), .mv (.t 1), (some (15, false)), []⟩,
   ⟨(some 17), .mv (.t 0), (some (15, false)), []⟩,
   ⟨(some 18), .nz (.t 17), (some (15, false)), []⟩,
   ⟨(some 19), .fld 1 (.t 18), (some (15, false)), []⟩,
   ⟨(some 20), .ld false 1 (.t 19), (some (15, false)), []⟩,
   ⟨(some 21), .bin .sub .none (.t 16) (.t 20), (some (15, false)), []⟩,
   ⟨(some 22), .mv (.t 0), (some (15, false)), []⟩,
   ⟨(some 23), .nz (.t 22), (some (15, false)), []⟩,
   ⟨(some 24), .fld 0 (.t 23), (some (15, false)), []⟩,
   ⟨(some 25), .ld false 1 (.t 24), (some (15, false)), []⟩,
   ⟨(some 26), .len 0 (.t 25), (some (15, false)), []⟩,
   ⟨(some 27), .bin .geq .none (.t 21) (.t 26), (some (15, false)), []⟩,
   S 28 (.pick (.t 15) (xB true) (.t 27))])
 (.cond (.t 28)
  (.seq (.ops [S 4 (.mv (.v .nilp))])
  (.ret))
  (.skip)))
 (.seq (.ops [S 29 (.mv (.t 0)),
   S 30 (.nz (.t 29)),
   S 31 (.fld 0 (.t 30)),
   S 32 (.ld false 1 (.t 31)),
   S 33 (.mv (.t 1)),
   S 34 (.mv (.t 0)),
   S 35 (.nz (.t 34)),
   S 36 (.fld 0 (.t 35)),
   S 37 (.ld false 1 (.t 36)),
   S 38 (.len 0 (.t 37)),
   S 39 (.bin .rem .none (.t 33) (.t 38)),
   S 40 (.ixa 5 (.t 32) (.t 39)),
   S 4 (.mv (.t 40))])
 (.ret))),
 [.tmp 4], false, false, false⟩
/- (*sibyl/log.Log).Collect$1 -/
def d_log_Log_Collect_1 : DFn := ⟨3,
 .seq (.ops [S 4 (.mv (xB false))])
 (.seq (.ops [S 5 (.mv (.t 0)),
   S 6 (.bin .neq .none (.t 5) (xI (-1))),
   S 7 (.mv (.t 6)),
   ⟨(some 8), .mv (.t 0), (some (7, true)), []⟩,
   ⟨(some 9), .ld false 1 (.t 1), (some (7, true)), []⟩,
   ⟨(some 10), .call n_log_Log_Low [(.t 9)], (some (7, true)), []⟩,
   ⟨(some 11), .bin .leq .none (.t 8) (.t 10), (some (7, true)), []⟩,
   ⟨(some 12), .mv (.t 11), (some (7, true)), []⟩,
   ⟨(some 13), .fld 0 (.t 2), (some (12, false)), []⟩,
   ⟨(some 14), .ld false 1 (.t 13), (some (12, false)), []⟩,
   ⟨(some 15), .bin .eql .none (.t 14) (xI 5), (some (12, false)), []⟩,
   ⟨(some 16), .pick (.t 12) (xB true) (.t 15), (some (7, true)), []⟩,
   S 17 (.pick (.t 7) (.t 16) (xB false)),
   S 4 (.mv (.t 17))])
 (.ret)),
 [.tmp 4], false, false, false⟩
/- slices.ContainsFunc[[]int,int] -/
def d_slices_ContainsFunc : DFn := ⟨2,
 .seq (.ops [S 4 (.mv (xB false))])
 (.seq (.ops [S 5 (.mv (.t 0)),
   S 6 (.mv (.t 1)),
   S 7 (.call n_slices_IndexFunc [(.t 5), (.t 6)]),
   S 8 (.bin .geq .none (.t 7) (xI 0)),
   S 4 (.mv (.t 8))])
 (.ret)),
 [.tmp 4], false, false, false⟩
/- (*sibyl/ring.Ring[sibyl/api.Out]).Get -/
def d_ring_Ring_Get_57 : DFn := ⟨2,
 .seq (.ops [S 4 (.new true [(.full []), (.full []), (.full []), (.full [])]),
   S 5 (.mv (xB false))])
 (.seq (.ops [S 8 (.mv (.t 0)),
   S 9 (.mv (.t 1)),
   S 10 (.call n_ring_Ring_at_54 [(.t 8), (.t 9)]),
   S 6 (.mv (.t 10))])
 (.seq (.seq (.ops [S 11 (.mv (.t 6)),
   S 12 (.bin .eql .ptr (.t 11) (.v .nilp))])
 (.cond (.t 12)
  (.seq (.ops [S 7 (.new true [(.full []), (.full []), (.full []), (.full [])])])
  (.seq (.ops [S 13 (.ld true 4 (.t 7)),
    E (.st 4 (.t 4) (.t 13)),
    S 5 (.mv (xB false))])
  (.ret)))
  (.skip)))
 (.seq (.ops [S 14 (.mv (.t 6)),
   S 15 (.nz (.t 14)),
   S 16 (.fld 0 (.t 15)),
   S 17 (.ld true 4 (.t 16)),
   S 18 (.mv (.t 6)),
   S 19 (.nz (.t 18)),
   S 20 (.fld 4 (.t 19)),
   S 21 (.ld false 1 (.t 20)),
   ⟨none, .st 4 (.t 4) (.t 17), none, [(21, .ld false 1 (.t 20), none)]⟩,
   S 5 (.mv (.t 21))])
 (.ret)))),
 [.cell 4 true 4, .tmp 5], false, false, false⟩
/- (*sibyl/ring.Ring[sibyl/api.Out]).Low -/
def d_ring_Ring_Low_58 : DFn := ⟨1,
 .seq (.ops [S 2 (.mv (xI 0))])
 (.seq (.seq (.ops [S 3 (.mv (.t 0)),
   S 4 (.bin .eql .ptr (.t 3) (.v .nilp))])
 (.cond (.t 4)
  (.seq (.ops [S 2 (.mv (xI 0))])
  (.ret))
  (.skip)))
 (.seq (.ops [S 5 (.mv (.t 0)),
   S 6 (.nz (.t 5)),
   S 7 (.fld 1 (.t 6)),
   S 8 (.ld false 1 (.t 7)),
   S 2 (.mv (.t 8))])
 (.ret))),
 [.tmp 2], false, false, false⟩
/- (*sibyl/client.Client).slot -/
def d_client_Client_slot : DFn := ⟨1,
 .seq (.ops [S 3 (.mv (.t 0)),
   S 4 (.mv (.t 0)),
   S 5 (.mv (.t 0)),
   S 6 (.nz (.t 5)),
   S 7 (.fld 0 (.t 6)),
   S 8 (.ld false 1 (.t 7)),
   S 10 (.mv (.t 0)),
   S 11 (.nz (.t 10)),
   S 12 (.fld 1 (.t 11)),
   S 13 (.fld 1 (.t 12)),
   S 14 (.ld true 6 (.t 13)),
   ⟨(some 9), .call n_log_Log_Store [(.t 8)], none, [(14, .ld true 6 (.t 13), none)]⟩,
   S 15 (.call n_store_Store_Take [(.t 9), (.t 14)]),
   S 2 (.mv (.t 15)),
   S 16 (.ext (.t 2) 0),
   S 17 (.ext (.t 2) 1),
   S 18 (.nz (.t 3)),
   S 19 (.fld 18 (.t 18)),
   E (.st 2 (.t 19) (.t 16)),
   S 20 (.nz (.t 4)),
   S 21 (.fld 17 (.t 20)),
   E (.st 1 (.t 21) (.t 17))])
 (.seq (.seq (.ops [S 22 (.mv (.t 0)),
   S 23 (.nz (.t 22)),
   S 24 (.fld 17 (.t 23)),
   S 25 (.ld false 1 (.t 24)),
   S 26 (.un .not (.t 25))])
 (.cond (.t 26)
  (.seq (.ops [S 27 (.mv (.t 0)),
    S 28 (.call n_client_Client_end [(.t 27), (xI 16), (xI 0)])])
  (.ret))
  (.skip)))
 (.ops [S 29 (.mv (.t 0)),
   S 30 (.mv (.t 0)),
   S 31 (.mkf (.func n_client_Client_take) [(.t 30)] []),
   S 32 (.nz (.t 29)),
   S 33 (.fld 14 (.t 32)),
   E (.st 1 (.t 33) (.t 31))])),
 [], false, false, false⟩
/- (*sibyl/client.Client).take -/
def d_client_Client_take : DFn := ⟨1,
 .block 0 (.seq (.ops [S 8 (.mv (.t 0)),
    S 9 (.nz (.t 8)),
    S 10 (.fld 0 (.t 9)),
    S 11 (.ld false 1 (.t 10)),
    S 12 (.mv (.t 0)),
    S 13 (.nz (.t 12)),
    S 14 (.fld 15 (.t 13)),
    S 15 (.ld false 1 (.t 14)),
    S 16 (.mv (.t 0)),
    S 17 (.nz (.t 16)),
    S 18 (.fld 1 (.t 17)),
    S 19 (.fld 0 (.t 18)),
    S 20 (.ld false 1 (.t 19)),
    S 21 (.bin .eql .none (.t 20) (xI 5)),
    S 22 (.call n_log_Log_Take [(.t 11), (.t 15), (.t 21)]),
    S 7 (.mv (.t 22))])
  (.cond (.t 7)
   (.seq (.ops [S 23 (.mv (.t 0)),
     S 24 (.mv (.t 0)),
     S 25 (.nz (.t 24)),
     S 26 (.fld 15 (.t 25)),
     S 27 (.ld false 1 (.t 26)),
     S 28 (.nz (.t 23)),
     S 29 (.fld 16 (.t 28)),
     E (.st 1 (.t 29) (.t 27))])
   (.ops [S 30 (.mv (.t 0)),
     S 31 (.mv (.t 0)),
     S 32 (.mkf (.func n_client_Client_fill) [(.t 31)] []),
     S 33 (.nz (.t 30)),
     S 34 (.fld 14 (.t 33)),
     E (.st 1 (.t 34) (.t 32))]))
   (.seq (.ops [S 36 (.mv (.t 0)),
     S 37 (.nz (.t 36)),
     S 38 (.fld 17 (.t 37)),
     S 39 (.ld false 1 (.t 38)),
     S 35 (.mv (.t 39))])
   (.cond (.t 35)
    (.ops [S 40 (.mv (.t 0)),
      S 41 (.mv (.t 0)),
      S 42 (.mkf (.func n_client_Client_drop) [(.t 41)] []),
      S 43 (.nz (.t 40)),
      S 44 (.fld 14 (.t 43)),
      E (.st 1 (.t 44) (.t 42))])
    (.ops [S 2 (.mv (.t 0)),
      S 3 (.mv (.t 0)),
      S 4 (.mkf (.func n_client_Client_look) [(.t 3)] []),
      S 5 (.nz (.t 2)),
      S 6 (.fld 14 (.t 5)),
      E (.st 1 (.t 6) (.t 4))]))))),
 [], false, false, false⟩
/- sibyl/lex.Lex -/
def ra_lex_Lex0 : DC :=
 .ops [S 7 (.new true [(eI 0), (eI 0), (.p (.str (bs []))), (eI 0)]),
   E (.st 4 (.t 7) (.t 12))]
def rb_lex_Lex0 : DC :=
 .block 1 (.seq (.seq (.ops [S 13 (.ld false 1 (.t 5)),
    S 14 (.len 0 (.t 13)),
    S 15 (.bin .eql .none (.t 14) (xI 200))])
  (.cond (.t 15)
   (.seq (.ops [S 16 (.fld 1 (.t 7)),
     S 17 (.ld false 1 (.t 16)),
     ⟨none, .st 1 (.t 2) (.v (.full [])), none, [(17, .ld false 1 (.t 16), none)]⟩,
     E (.st 1 (.t 3) (.t 17)),
     E (.st 1 (.t 4) (xI 12))])
   (.ret))
   (.skip)))
  (.seq (.ops [S 18 (.ld false 1 (.t 5)),
    S 19 (.ld true 4 (.t 7)),
    S 20 (.lit 4 true [[(eI 0), (eI 0), (.p (.str (bs []))), (eI 0)]] [(0, (.t 19))]),
    S 21 (.app 4 true 40 (.t 18) (.t 20)),
    E (.st 1 (.t 5) (.t 21))])
  (.ops [S 22 (.ld false 1 (.t 1)),
    S 23 (.fld 1 (.t 7)),
    S 24 (.ld false 1 (.t 23)),
    S 25 (.fld 2 (.t 7)),
    S 26 (.ld false 1 (.t 25)),
    S 27 (.len 1 (.t 26)),
    S 28 (.bin .add .none (.t 24) (.t 27)),
    S 29 (.call n_lex_skip [(.t 22), (.t 28)]),
    E (.st 1 (.t 6) (.t 29))])))
def d_lex_Lex : DFn := ⟨1,
 .seq (.ops [S 1 (.box false 1 (.t 0)),
   S 2 (.new false [(.full [])]),
   S 3 (.new false [(eI 0)]),
   S 4 (.new false [(eI 0)])])
 (.seq (.ops [S 5 (.new false [(.full [])])])
 (.seq (.ops [S 8 (.ld false 1 (.t 1)),
   S 9 (.call n_lex_skip [(.t 8), (xI 0)]),
   S 6 (.new false [(eI 0)]),
   E (.st 1 (.t 6) (.t 9))])
 (.seq (.seq (.ops [S 10 (.ld false 1 (.t 1)),
   S 11 (.call n_lex_Each [(.t 10)])])
 (.block 0 (.range [12] [1, 2, 3, 4, 5, 6] (.t 11) ra_lex_Lex0 rb_lex_Lex0)))
 (.seq (.seq (.ops [S 30 (.ld false 1 (.t 6)),
   S 31 (.ld false 1 (.t 1)),
   S 32 (.len 1 (.t 31)),
   S 33 (.bin .lss .none (.t 30) (.t 32))])
 (.cond (.t 33)
  (.seq (.ops [S 34 (.ld false 1 (.t 6)),
    ⟨none, .st 1 (.t 2) (.v (.full [])), none, [(34, .ld false 1 (.t 6), none)]⟩,
    E (.st 1 (.t 3) (.t 34)),
    E (.st 1 (.t 4) (xI 10))])
  (.ret))
  (.skip)))
 (.seq (.ops [S 35 (.ld false 1 (.t 5)),
   S 36 (.ld false 1 (.t 1)),
   S 37 (.len 1 (.t 36)),
   ⟨none, .st 1 (.t 2) (.t 35), none, [(36, .ld false 1 (.t 1), none)]⟩,
   E (.st 1 (.t 3) (.t 37)),
   E (.st 1 (.t 4) (xI 0))])
 (.ret)))))),
 [.cell 2 false 1, .cell 3 false 1, .cell 4 false 1], false, false, false⟩
/- (*sibyl/query.parser).query -/
def d_query_parser_query : DFn := ⟨2,
 .seq (.ops [⟨(some 1), .mv (.v (.tup [])), none, [(1, .mv (.v (.p (.agg [(.bool true)]))), none)]⟩])
 (.block 900002 (.seq (.block 900001 (.seq (.block 900000 (.seq (.ops [S 2 (.new true [(.full []), (.full []), (eI 0), (eB false)])])
    (.seq (.seq (.ops [S 5 (.mv (.t 0))])
    (.seq (.ops [S 6 (.mv (.t 0))])
    (.seq (.ops [S 7 (.call n_query_parser_may [(.t 6), (.v (.p (.str (bs [115, 101, 113]))))])])
    (.seq (.ops [S 3000 (.may (.v (.fn (.func 78) [] [])) [(.t 5), (.t 7)]),
      S 3001 (.ext (.t 3000) 0)])
    (.cond (.t 3001)
     (.seq (.ops [S 3002 (.ext (.t 3000) 1),
       S 3000 (.mv (.v (.tup []))),
       S 3001 (.mv (.v (.tup [])))])
     (.exit 900001))
     (.seq (.ops [S 8 (.ext (.t 3000) 1),
       S 3000 (.mv (.v (.tup []))),
       S 3001 (.mv (.v (.tup [])))])
     (.skip)))))))
    (.seq (.seq (.ops [S 3 (.mv (xB true))])
    (.block 0 (.loop [0, 2, 3] (.seq (.seq (.ops [S 9 (.mv (.t 3))])
      (.cond (.t 9)
       (.skip)
       (.exit 0)))
      (.seq (.block 1 (.seq (.ops [S 12 (.fld 0 (.t 2))])
       (.seq (.ops [S 13 (.ld false 1 (.t 12))])
       (.seq (.ops [S 14 (.mv (.t 0))])
       (.seq (.ops [⟨(some 3000), .may (.v (.fn (.func 80) [] [])) [(.t 14)], none, [(13, .ld false 1 (.t 12), none)]⟩,
         S 3001 (.ext (.t 3000) 0)])
       (.cond (.t 3001)
        (.seq (.ops [S 3002 (.ext (.t 3000) 1),
          S 3000 (.mv (.v (.tup []))),
          S 3001 (.mv (.v (.tup [])))])
        (.exit 900001))
        (.seq (.ops [S 15 (.ext (.t 3000) 1),
          S 3000 (.mv (.v (.tup []))),
          S 3001 (.mv (.v (.tup [])))])
        (.seq (.ops [S 16 (.lit 4 true [[(eI 0), (.p (.str (bs []))), (eB false), (eB false)]] [(0, (.t 15))])])
        (.seq (.ops [S 17 (.app 4 true 32 (.t 13) (.t 16))])
        (.seq (.ops [S 18 (.fld 0 (.t 2))])
        (.seq (.ops [E (.st 1 (.t 18) (.t 17))])
        (.skip))))))))))))
      (.ops [S 10 (.mv (.t 0)),
        S 11 (.call n_query_parser_may [(.t 10), (.v (.p (.str (bs [44]))))]),
        S 3 (.mv (.t 11))]))))))
    (.seq (.seq (.ops [S 19 (.mv (.t 0)),
      S 20 (.call n_query_parser_may [(.t 19), (.v (.p (.str (bs [119, 104, 101, 114, 101]))))]),
      S 4 (.mv (.t 20))])
    (.block 2 (.loop [0, 2, 4] (.seq (.seq (.ops [S 21 (.mv (.t 4))])
      (.cond (.t 21)
       (.skip)
       (.exit 2)))
      (.seq (.block 3 (.ops [S 24 (.fld 1 (.t 2)),
         S 25 (.ld false 1 (.t 24)),
         S 26 (.mv (.t 0)),
         ⟨(some 27), .call n_query_parser_cond [(.t 26)], none, [(25, .ld false 1 (.t 24), none)]⟩,
         S 28 (.lit 3 true [[(eI 0), (.full []), (.full [])]] [(0, (.t 27))]),
         S 29 (.app 3 true 56 (.t 25) (.t 28)),
         S 30 (.fld 1 (.t 2)),
         E (.st 1 (.t 30) (.t 29))]))
      (.ops [S 22 (.mv (.t 0)),
        S 23 (.call n_query_parser_may [(.t 22), (.v (.p (.str (bs [97, 110, 100]))))]),
        S 4 (.mv (.t 23))]))))))
    (.seq (.seq (.ops [S 31 (.mv (.t 0))])
    (.seq (.ops [S 32 (.mv (.t 0))])
    (.seq (.ops [S 33 (.call n_query_parser_may [(.t 32), (.v (.p (.str (bs [119, 105, 116, 104, 105, 110]))))])])
    (.seq (.ops [S 3000 (.may (.v (.fn (.func 78) [] [])) [(.t 31), (.t 33)]),
      S 3001 (.ext (.t 3000) 0)])
    (.cond (.t 3001)
     (.seq (.ops [S 3002 (.ext (.t 3000) 1),
       S 3000 (.mv (.v (.tup []))),
       S 3001 (.mv (.v (.tup [])))])
     (.exit 900001))
     (.seq (.ops [S 34 (.ext (.t 3000) 1),
       S 3000 (.mv (.v (.tup []))),
       S 3001 (.mv (.v (.tup [])))])
     (.skip)))))))
    (.seq (.seq (.ops [S 35 (.mv (.t 0))])
    (.seq (.ops [S 3000 (.may (.v (.fn (.func 82) [] [])) [(.t 35), (xI 3)]),
      S 3001 (.ext (.t 3000) 0)])
    (.cond (.t 3001)
     (.seq (.ops [S 3002 (.ext (.t 3000) 1),
       S 3000 (.mv (.v (.tup []))),
       S 3001 (.mv (.v (.tup [])))])
     (.exit 900001))
     (.seq (.ops [S 36 (.ext (.t 3000) 1),
       S 3000 (.mv (.v (.tup []))),
       S 3001 (.mv (.v (.tup [])))])
     (.seq (.ops [S 37 (.fget 3 1 false (.t 36))])
     (.seq (.ops [S 38 (.fld 2 (.t 2))])
     (.seq (.ops [E (.st 1 (.t 38) (.t 37))])
     (.skip))))))))
    (.seq (.ops [S 39 (.mv (.t 0)),
      S 40 (.call n_query_parser_may [(.t 39), (.v (.p (.str (bs [98, 121]))))]),
      S 41 (.fld 3 (.t 2)),
      E (.st 1 (.t 41) (.t 40))])
    (.seq (.seq (.ops [S 42 (.mv (.t 0))])
    (.seq (.ops [S 43 (.fld 3 (.t 2))])
    (.seq (.ops [S 44 (.ld false 1 (.t 43))])
    (.seq (.ops [S 45 (.un .not (.t 44))])
    (.seq (.ops [S 46 (.mv (.t 45))])
    (.seq (.ops [⟨(some 47), .mv (.t 0), (some (46, false)), []⟩])
    (.seq (.ops [⟨(some 48), .call n_query_parser_may [(.t 47), (.v (.p (.str (bs [107, 101, 121]))))], (some (46, false)), []⟩])
    (.seq (.ops [S 49 (.pick (.t 46) (xB true) (.t 48))])
    (.seq (.ops [S 3000 (.may (.v (.fn (.func 78) [] [])) [(.t 42), (.t 49)]),
      S 3001 (.ext (.t 3000) 0)])
    (.cond (.t 3001)
     (.seq (.ops [S 3002 (.ext (.t 3000) 1),
       S 3000 (.mv (.v (.tup []))),
       S 3001 (.mv (.v (.tup [])))])
     (.exit 900001))
     (.seq (.ops [S 50 (.ext (.t 3000) 1),
       S 3000 (.mv (.v (.tup []))),
       S 3001 (.mv (.v (.tup [])))])
     (.skip))))))))))))
    (.seq (.seq (.ops [S 51 (.mv (.t 0))])
    (.seq (.ops [S 52 (.mv (.t 0))])
    (.seq (.ops [S 53 (.nz (.t 52))])
    (.seq (.ops [S 54 (.fld 0 (.t 53))])
    (.seq (.ops [S 55 (.fld 1 (.t 54))])
    (.seq (.ops [S 56 (.ld false 1 (.t 55))])
    (.seq (.ops [S 57 (.mv (.t 0))])
    (.seq (.ops [S 58 (.nz (.t 57))])
    (.seq (.ops [S 59 (.fld 0 (.t 58))])
    (.seq (.ops [S 60 (.fld 0 (.t 59))])
    (.seq (.ops [S 61 (.ld false 1 (.t 60))])
    (.seq (.ops [S 62 (.len 0 (.t 61))])
    (.seq (.ops [S 63 (.bin .eql .none (.t 56) (.t 62))])
    (.seq (.ops [S 3000 (.may (.v (.fn (.func 78) [] [])) [(.t 51), (.t 63)]),
      S 3001 (.ext (.t 3000) 0)])
    (.cond (.t 3001)
     (.seq (.ops [S 3002 (.ext (.t 3000) 1),
       S 3000 (.mv (.v (.tup []))),
       S 3001 (.mv (.v (.tup [])))])
     (.exit 900001))
     (.seq (.ops [S 64 (.ext (.t 3000) 1),
       S 3000 (.mv (.v (.tup []))),
       S 3001 (.mv (.v (.tup [])))])
     (.skip)))))))))))))))))
    (.seq (.ops [S 65 (.ld true 4 (.t 2)),
      E (.st 4 (.t 2) (.t 65))])
    (.exit 900000))))))))))))
   (.seq (.ops [S 3002 (.ld true 4 (.t 2))])
   (.seq (.ops [S 3001 (.mv (xB false))])
   (.exit 900002)))))
  (.ops [S 3001 (.mv (xB true))]))),
 [.tmp 3001, .tmp 3002], false, false, false⟩
/- sibyl/sibylref03.Name -/
def d_rName : DFn := ⟨1,
 .seq (.ops [S 2 (.mv (xB false))])
 (.seq (.ops [S 5 (.mv (.t 0)),
   S 6 (.call n_rLex [(.t 5)]),
   S 3 (.new true [(.full []), (eI 0), (eI 0)]),
   E (.st 3 (.t 3) (.t 6))])
 (.seq (.ops [S 7 (.mv (.t 0)),
   S 8 (.call n_rkeyword [(.t 7)]),
   S 4 (.mv (.t 8))])
 (.seq (.ops [S 9 (.fld 0 (.t 3)),
   S 10 (.ld false 1 (.t 9)),
   S 11 (.len 0 (.t 10)),
   S 12 (.bin .eql .none (.t 11) (xI 1)),
   S 13 (.mv (.t 12)),
   ⟨(some 14), .fld 0 (.t 3), (some (13, true)), []⟩,
   ⟨(some 15), .ld false 1 (.t 14), (some (13, true)), []⟩,
   ⟨(some 16), .ixa 4 (.t 15) (xI 0), (some (13, true)), []⟩,
   ⟨(some 17), .fld 0 (.t 16), (some (13, true)), []⟩,
   ⟨(some 18), .ld false 1 (.t 17), (some (13, true)), []⟩,
   ⟨(some 19), .bin .eql .none (.t 18) (xI 1), (some (13, true)), []⟩,
   S 20 (.pick (.t 13) (.t 19) (xB false)),
   S 21 (.mv (.t 20)),
   ⟨(some 22), .fld 0 (.t 3), (some (21, true)), []⟩,
   ⟨(some 23), .ld false 1 (.t 22), (some (21, true)), []⟩,
   ⟨(some 24), .ixa 4 (.t 23) (xI 0), (some (21, true)), []⟩,
   ⟨(some 25), .fld 2 (.t 24), (some (21, true)), []⟩,
   ⟨(some 26), .ld false 1 (.t 25), (some (21, true)), []⟩,
   ⟨(some 27), .mv (.t 0), (some (21, true)), []⟩,
   ⟨(some 28), .bin .eql .none (.t 26) (.t 27), (some (21, true)), []⟩,
   S 29 (.pick (.t 21) (.t 28) (xB false)),
   S 30 (.mv (.t 29)),
   ⟨(some 31), .mv (.t 4), (some (30, true)), []⟩,
   ⟨(some 32), .un .not (.t 31), (some (30, true)), []⟩,
   S 33 (.pick (.t 30) (.t 32) (xB false)),
   S 2 (.mv (.t 33))])
 (.ret)))),
 [.tmp 2], false, true, false⟩
/- sibyl/sibylref03.Sound -/
def d_rSound : DFn := ⟨1,
 .seq (.ops [S 2 (.mv (xB false))])
 (.seq (.ops [S 3 (.mv (xI 0))])
 (.seq (.seq (.ops [S 4 (.mv (xI 0))])
 (.block 0 (.loop [0, 3, 4] (.seq (.seq (.ops [S 6 (.mv (.t 4)),
     S 7 (.mv (.t 0)),
     S 8 (.len 0 (.t 7)),
     S 9 (.bin .lss .none (.t 6) (.t 8))])
   (.cond (.t 9)
    (.skip)
    (.exit 0)))
   (.seq (.block 1 (.seq (.ops [S 12 (.mv (.t 0)),
      S 13 (.mv (.t 4)),
      S 14 (.ixa 5 (.t 12) (.t 13)),
      S 15 (.ld true 5 (.t 14)),
      S 16 (.call n_rtakes [(.t 15)]),
      S 5 (.mv (.t 16))])
    (.seq (.seq (.ops [S 17 (.mv (.t 5)),
      S 18 (.bin .lss .none (.t 17) (xI 0)),
      S 19 (.mv (.t 18)),
      ⟨(some 20), .mv (.t 3), (some (19, false)), []⟩,
      ⟨(some 21), .mv (.t 5), (some (19, false)), []⟩,
      ⟨(some 22), .bin .lss .none (.t 20) (.t 21), (some (19, false)), []⟩,
      S 23 (.pick (.t 19) (xB true) (.t 22))])
    (.cond (.t 23)
     (.seq (.ops [S 2 (.mv (xB false))])
     (.ret))
     (.skip)))
    (.ops [S 24 (.mv (.t 3)),
      S 25 (.mv (.t 5)),
      S 26 (.bin .sub .none (.t 24) (.t 25)),
      S 27 (.bin .add .none (.t 26) (xI 1)),
      S 3 (.mv (.t 27))]))))
   (.ops [S 10 (.mv (.t 4)),
     S 11 (.bin .add .none (.t 10) (xI 1)),
     S 4 (.mv (.t 11))]))))))
 (.seq (.ops [S 28 (.mv (.t 3)),
   S 29 (.bin .eql .none (.t 28) (xI 1)),
   S 2 (.mv (.t 29))])
 (.ret)))),
 [.tmp 2], false, true, false⟩
/- sibyl/sibylref03.takes -/
def d_rtakes : DFn := ⟨1,
 .seq (.ops [S 1 (.box true 5 (.t 0)),
   S 2 (.mv (xI 0))])
 (.seq (.ops [S 4 (.fld 2 (.t 1)),
   S 5 (.ld false 1 (.t 4)),
   S 6 (.call n_rName [(.t 5)]),
   S 3 (.mv (.t 6))])
 (.seq (.seq (.ops [S 7 (.fld 0 (.t 1)),
   S 8 (.ld false 1 (.t 7))])
 (.block 0 (.seq (.seq (.ops [S 10 (.bin .eql .none (.t 8) (xI 1)),
    S 9 (.mv (.t 10))])
  (.cond (.t 9)
   (.skip)
   (.seq (.ops [S 11 (.bin .eql .none (.t 8) (xI 2)),
     S 9 (.mv (.t 11))])
   (.cond (.t 9)
    (.skip)
    (.seq (.ops [S 12 (.bin .eql .none (.t 8) (xI 3)),
      S 9 (.mv (.t 12))])
    (.cond (.t 9)
     (.skip)
     (.seq (.ops [S 13 (.bin .eql .none (.t 8) (xI 4)),
       S 9 (.mv (.t 13))])
     (.cond (.t 9)
      (.skip)
      (.ops [S 14 (.bin .eql .none (.t 8) (xI 5)),
        S 9 (.mv (.t 14))])))))))))
  (.cond (.t 9)
   (.seq (.ops [S 2 (.mv (xI 2))])
   (.ret))
   (.seq (.ops [S 16 (.bin .eql .none (.t 8) (xI 9)),
     S 15 (.mv (.t 16))])
   (.cond (.t 15)
    (.seq (.ops [S 2 (.mv (xI 1))])
    (.ret))
    (.seq (.ops [S 18 (.bin .eql .none (.t 8) (xI 6)),
      S 17 (.mv (.t 18))])
    (.cond (.t 17)
     (.seq (.ops [S 19 (.fld 1 (.t 1)),
       S 20 (.ld false 1 (.t 19)),
       S 21 (.bin .geq .none (.t 20) (xI 0))])
     (.cond (.t 21)
      (.seq (.ops [S 2 (.mv (xI 0))])
      (.ret))
      (.skip)))
     (.seq (.ops [S 23 (.bin .eql .none (.t 8) (xI 8)),
       S 22 (.mv (.t 23))])
     (.cond (.t 22)
      (.seq (.ops [S 24 (.mv (.t 3))])
      (.cond (.t 24)
       (.seq (.ops [S 2 (.mv (xI 0))])
       (.ret))
       (.skip)))
      (.seq (.ops [S 26 (.bin .eql .none (.t 8) (xI 7)),
        S 25 (.mv (.t 26))])
      (.cond (.t 25)
       (.seq (.ops [S 27 (.mv (.t 3)),
         S 28 (.mv (.t 27)),
         ⟨(some 29), .fld 3 (.t 1), (some (28, true)), []⟩,
         ⟨(some 30), .ld false 1 (.t 29), (some (28, true)), []⟩,
         ⟨(some 31), .bin .geq .none (.t 30) (xI 0), (some (28, true)), []⟩,
         S 32 (.pick (.t 28) (.t 31) (xB false)),
         S 33 (.mv (.t 32)),
         ⟨(some 34), .fld 3 (.t 1), (some (33, true)), []⟩,
         ⟨(some 35), .ld false 1 (.t 34), (some (33, true)), []⟩,
         ⟨(some 36), .bin .lss .none (.t 35) (xI 4), (some (33, true)), []⟩,
         S 37 (.pick (.t 33) (.t 36) (xB false))])
       (.cond (.t 37)
        (.seq (.ops [S 2 (.mv (xI 0))])
        (.ret))
        (.skip)))
       (.skip)))))))))))))
 (.seq (.ops [S 2 (.mv (xI (-1)))])
 (.ret)))),
 [.tmp 2], false, true, false⟩
/- sibyl/sibylref03.held -/
def d_held : DFn := ⟨2,
 .seq (.ops [S 2 (.box true 2 (.t 0)),
   S 4 (.mv (.v (.p (.str (bs [])))))])
 (.seq (.seq (.ops [S 5 (.fld 1 (.t 2)),
   S 6 (.ld false 1 (.t 5)),
   S 7 (.mv (.t 1)),
   S 8 (.bin .lss .none (.t 6) (.t 7))])
 (.cond (.t 8)
  (.seq (.ops [S 9 (.fld 0 (.t 2)),
    S 10 (.ld false 1 (.t 9)),
    S 11 (.bin .add .none (.v (.p (.str (bs [40])))) (.t 10)),
    S 12 (.bin .add .none (.t 11) (.v (.p (.str (bs [41]))))),
    S 4 (.mv (.t 12))])
  (.ret))
  (.skip)))
 (.seq (.ops [S 13 (.fld 0 (.t 2)),
   S 14 (.ld false 1 (.t 13)),
   S 4 (.mv (.t 14))])
 (.ret))),
 [.tmp 4], false, true, false⟩
/- slices.IndexFunc[[]int,int] -/
def d_slices_IndexFunc : DFn := ⟨2,
 .seq (.ops [S 4 (.mv (xI 0))])
 (.seq (.seq (.ops [S 6 (.mv (.t 0)),
   S 7 (.len 0 (.t 6)),
   S 8 (.mv (xI 0))])
 (.block 0 (.loop [0, 1, 7, 8] (.seq (.ops [S 9 (.bin .lss .none (.t 8) (.t 7))])
   (.seq (.cond (.t 9)
    (.skip)
    (.exit 0))
   (.seq (.block 1 (.seq (.ops [S 10 (.mv (.t 8)),
      S 5 (.mv (.t 10))])
    (.seq (.ops [S 11 (.mv (.t 1)),
      S 12 (.mv (.t 0)),
      S 13 (.mv (.t 5)),
      S 14 (.ixa 1 (.t 12) (.t 13)),
      S 15 (.ld false 1 (.t 14)),
      S 16 (.callv (.t 11) [(.t 15)])])
    (.cond (.t 16)
     (.seq (.ops [S 17 (.mv (.t 5)),
       S 4 (.mv (.t 17))])
     (.ret))
     (.skip)))))
   (.ops [S 18 (.bin .add .none (.t 8) (xI 1)),
     S 8 (.mv (.t 18))])))))))
 (.seq (.ops [S 4 (.mv (xI (-1)))])
 (.ret))),
 [.tmp 4], false, false, false⟩
/- (*sibyl/store.Store).Take -/
def d_store_Store_Take : DFn := ⟨2,
 .seq (.ops [S 3 (.box true 6 (.t 1)),
   S 4 (.new true [(eI 0), (eI 0)]),
   S 5 (.mv (xB false))])
 (.seq (.seq (.ops [S 8 (.mv (.t 0)),
   S 9 (.bin .eql .ptr (.t 8) (.v .nilp))])
 (.cond (.t 9)
  (.seq (.ops [S 10 (.build [(eI 0), (eI 0)] []),
    E (.st 2 (.t 4) (.t 10)),
    S 5 (.mv (xB false))])
  (.ret))
  (.skip)))
 (.seq (.ops [S 6 (.mv (xI 0))])
 (.seq (.skip)
 (.seq (.block 0 (.loop [0, 3, 4, 6] (.seq (.seq (.ops [S 11 (.mv (.t 6)),
     S 12 (.mv (.t 0)),
     S 13 (.nz (.t 12)),
     S 14 (.fld 0 (.t 13)),
     S 15 (.ld false 1 (.t 14)),
     S 16 (.len 0 (.t 15)),
     S 17 (.bin .lss .none (.t 11) (.t 16))])
   (.cond (.t 17)
    (.skip)
    (.exit 0)))
   (.block 1 (.seq (.seq (.ops [S 18 (.mv (.t 0)),
      S 19 (.nz (.t 18)),
      S 20 (.fld 0 (.t 19)),
      S 21 (.ld false 1 (.t 20)),
      S 22 (.mv (.t 6)),
      S 23 (.ixa 9 (.t 21) (.t 22)),
      S 24 (.fld 1 (.t 23)),
      S 25 (.ld false 1 (.t 24)),
      S 26 (.un .not (.t 25))])
    (.cond (.t 26)
     (.exit 0)
     (.skip)))
    (.ops [S 27 (.mv (.t 6)),
      S 28 (.bin .add .none (.t 27) (xI 1)),
      S 6 (.mv (.t 28))]))))))
 (.seq (.seq (.ops [S 29 (.mv (.t 6)),
   S 30 (.mv (.t 0)),
   S 31 (.nz (.t 30)),
   S 32 (.fld 0 (.t 31)),
   S 33 (.ld false 1 (.t 32)),
   S 34 (.len 0 (.t 33)),
   S 35 (.bin .eql .none (.t 29) (.t 34))])
 (.cond (.t 35)
  (.seq (.ops [S 36 (.build [(eI 0), (eI 0)] []),
    E (.st 2 (.t 4) (.t 36)),
    S 5 (.mv (xB false))])
  (.ret))
  (.skip)))
 (.seq (.ops [S 37 (.mv (.t 0)),
   S 38 (.nz (.t 37)),
   S 39 (.fld 0 (.t 38)),
   S 40 (.ld false 1 (.t 39)),
   S 41 (.mv (.t 6)),
   S 42 (.ixa 9 (.t 40) (.t 41)),
   S 7 (.mv (.t 42))])
 (.seq (.ops [S 43 (.mv (.t 7)),
   S 44 (.mv (.t 7)),
   S 45 (.mv (.t 7)),
   S 46 (.ld true 6 (.t 3)),
   S 47 (.nz (.t 43)),
   S 48 (.fld 1 (.t 47)),
   ⟨none, .st 1 (.t 48) (xB true), none, [(46, .ld true 6 (.t 3), none)]⟩,
   S 49 (.nz (.t 44)),
   S 50 (.fld 2 (.t 49)),
   E (.st 6 (.t 50) (.t 46)),
   S 51 (.nz (.t 45)),
   S 52 (.fld 8 (.t 51)),
   E (.st 1 (.t 52) (xI 1))])
 (.seq (.ops [S 53 (.mv (.t 0)),
   S 54 (.nz (.t 53)),
   S 55 (.fld 1 (.t 54)),
   S 56 (.ld false 1 (.t 55)),
   S 57 (.bin .add .none (.t 56) (xI 1)),
   S 58 (.nz (.t 53)),
   S 59 (.fld 1 (.t 58)),
   E (.st 1 (.t 59) (.t 57))])
 (.seq (.ops [S 60 (.mv (.t 0)),
   S 61 (.nz (.t 60)),
   S 62 (.fld 2 (.t 61)),
   S 63 (.ld false 1 (.t 62)),
   S 64 (.bin .add .none (.t 63) (xI 1)),
   S 65 (.nz (.t 60)),
   S 66 (.fld 2 (.t 65)),
   E (.st 1 (.t 66) (.t 64))])
 (.seq (.ops [S 67 (.mv (.t 6)),
   S 68 (.mv (.t 7)),
   S 69 (.nz (.t 68)),
   S 70 (.fld 0 (.t 69)),
   S 71 (.ld false 1 (.t 70)),
   S 72 (.build [(eI 0), (eI 0)] [(0, 1, (.t 67)), (1, 1, (.t 71))]),
   E (.st 2 (.t 4) (.t 72)),
   S 5 (.mv (xB true))])
 (.ret))))))))))),
 [.cell 4 true 2, .tmp 5], false, false, false⟩
/- (*sibyl/client.Client).fill -/
def d_client_Client_fill : DFn := ⟨1,
 .seq (.ops [S 3 (.mv (.t 0)),
   S 4 (.nz (.t 3)),
   S 5 (.fld 1 (.t 4)),
   S 6 (.ld true 10 (.t 5)),
   S 2 (.new true [(eI 0), (eI 0), (eI 0), (eI 0), (eI 0), (eI 0), (eI 0), (.p (.str (bs []))), (eI 0), (eI 0)]),
   E (.st 10 (.t 2) (.t 6))])
 (.seq (.ops [S 7 (.mv (.t 0)),
   S 8 (.nz (.t 7)),
   S 9 (.fld 0 (.t 8)),
   S 10 (.ld false 1 (.t 9)),
   S 11 (.mv (.t 0)),
   S 12 (.nz (.t 11)),
   S 13 (.fld 16 (.t 12)),
   S 14 (.ld false 1 (.t 13)),
   S 15 (.fld 0 (.t 2)),
   S 16 (.ld false 1 (.t 15)),
   S 17 (.fld 8 (.t 2)),
   S 18 (.ld false 1 (.t 17)),
   S 19 (.fld 9 (.t 2)),
   S 20 (.ld false 1 (.t 19)),
   S 21 (.fld 1 (.t 2)),
   S 22 (.ld true 6 (.t 21)),
   S 23 (.mv (.t 0)),
   S 24 (.nz (.t 23)),
   S 25 (.fld 18 (.t 24)),
   S 26 (.ld true 2 (.t 25)),
   S 27 (.mv (.t 0)),
   S 28 (.nz (.t 27)),
   S 29 (.fld 11 (.t 28)),
   S 30 (.ld true 3 (.t 29)),
   S 31 (.build [(eI 0), (eI 0), (eI 0), (eI 0), (eI 0), (eI 0), (eI 0), (eI 0), (eI 0), (eI 0), (eI 0), (.full []), (eI 0), (eB false)] [(0, 1, (.t 16)), (1, 1, (.t 18)), (2, 1, (.t 20)), (3, 6, (.t 22)), (9, 2, (.t 26)), (11, 3, (.t 30))]),
   S 32 (.call n_log_Log_Fill [(.t 10), (.t 14), (.t 31)])])
 (.seq (.ops [S 33 (.mv (.t 0)),
   S 34 (.mv (.t 0)),
   S 35 (.mkf (.func n_client_Client_wait) [(.t 34)] []),
   S 36 (.nz (.t 33)),
   S 37 (.fld 14 (.t 36)),
   E (.st 1 (.t 37) (.t 35))])
 (.seq (.ops [S 38 (.fld 0 (.t 2)),
   S 39 (.ld false 1 (.t 38)),
   S 40 (.bin .eql .none (.t 39) (xI 1))])
 (.cond (.t 40)
  (.ops [S 41 (.mv (.t 0)),
    S 42 (.mv (.t 0)),
    S 43 (.nz (.t 42)),
    S 44 (.fld 16 (.t 43)),
    S 45 (.ld false 1 (.t 44)),
    S 46 (.call n_client_Client_end [(.t 41), (xI 0), (.t 45)])])
  (.skip))))),
 [], false, false, false⟩
/- (*sibyl/client.Client).drop -/
def d_client_Client_drop : DFn := ⟨1,
 .seq (.ops [S 2 (.mv (.t 0)),
   S 3 (.nz (.t 2)),
   S 4 (.fld 0 (.t 3)),
   S 5 (.ld false 1 (.t 4)),
   S 7 (.mv (.t 0)),
   S 8 (.nz (.t 7)),
   S 9 (.fld 18 (.t 8)),
   S 10 (.ld true 2 (.t 9)),
   ⟨(some 6), .call n_log_Log_Store [(.t 5)], none, [(10, .ld true 2 (.t 9), none)]⟩,
   S 11 (.call n_store_Store_Add [(.t 6), (.t 10), (xI (-1))])])
 (.ops [S 12 (.mv (.t 0)),
   S 13 (.mv (.t 0)),
   S 14 (.mkf (.func n_client_Client_free) [(.t 13)] []),
   S 15 (.nz (.t 12)),
   S 16 (.fld 14 (.t 15)),
   E (.st 1 (.t 16) (.t 14))]),
 [], false, false, false⟩
/- sibyl/lex.skip -/
def d_lex_skip : DFn := ⟨2,
 .seq (.ops [S 4 (.mv (xI 0))])
 (.seq (.block 0 (.loop [0, 1] (.seq (.seq (.ops [S 5 (.mv (.t 1)),
     S 6 (.mv (.t 0)),
     S 7 (.len 1 (.t 6)),
     S 8 (.bin .lss .none (.t 5) (.t 7)),
     S 9 (.mv (.t 8)),
     ⟨(some 10), .mv (.t 0), (some (9, true)), []⟩,
     ⟨(some 11), .mv (.t 1), (some (9, true)), []⟩,
     ⟨(some 12), .ixs (.t 10) (.t 11), (some (9, true)), []⟩,
     ⟨(some 13), .call n_strings_IndexByte [(.v (.p (.str (bs [32, 9, 10])))), (.t 12)], (some (9, true)), []⟩,
     ⟨(some 14), .bin .geq .none (.t 13) (xI 0), (some (9, true)), []⟩,
     S 15 (.pick (.t 9) (.t 14) (xB false))])
   (.cond (.t 15)
    (.skip)
    (.exit 0)))
   (.block 1 (.ops [S 16 (.mv (.t 1)),
      S 17 (.bin .add .none (.t 16) (xI 1)),
      S 1 (.mv (.t 17))])))))
 (.seq (.ops [S 18 (.mv (.t 1)),
   S 4 (.mv (.t 18))])
 (.ret))),
 [.tmp 4], false, false, false⟩
/- sibyl/lex.Each -/
def d_lex_Each : DFn := ⟨1,
 .seq (.ops [S 1 (.box false 1 (.t 0)),
   S 2 (.mv (.v .nilf))])
 (.seq (.ops [S 3 (.mkf (.func n_lex_Each_1) [] [(.t 1)]),
   S 2 (.mv (.t 3))])
 (.ret)),
 [.tmp 2], false, false, false⟩
/- (*sibyl/query.parser).must -/
def d_query_parser_must : DFn := ⟨3,
 .seq (.ops [⟨(some 2), .mv (.v (.tup [])), none, [(2, .mv (.v (.p (.agg [(.bool true)]))), none)]⟩])
 (.block 900002 (.seq (.block 900001 (.seq (.block 900000 (.seq (.ops [S 4 (.mv (.t 1)),
      S 5 (.un .not (.t 4))])
    (.cond (.t 5)
     (.seq (.ops [S 6 (.mv (.t 0))])
     (.seq (.ops [S 7 (.call n_query_parser_at [(.t 6)])])
     (.seq (.ops [S 8 (.build [(eI 0), (eI 0)] [(0, 1, (.t 7)), (1, 1, (xI 11))])])
     (.seq (.ops [S 9 (.mki 161 (.t 8))])
     (.seq (.ops [S 3000 (.asr 161 .nili (.t 9)),
       S 3001 (.ext (.t 3000) 1)])
     (.cond (.t 3001)
      (.seq (.ops [S 3002 (.mv (.t 9)),
        S 3000 (.mv (.v (.tup []))),
        S 3001 (.mv (.v (.tup [])))])
      (.exit 900001))
      (.ops [E (.nz (.v .junk))])))))))
     (.skip))))
   (.seq (.ops [S 3002 (.mv (.v (.tup [])))])
   (.seq (.ops [S 3001 (.mv (xB false))])
   (.exit 900002)))))
  (.ops [S 3001 (.mv (xB true))]))),
 [.tmp 3001, .tmp 3002], false, false, false⟩
/- (*sibyl/query.parser).may -/
def d_query_parser_may : DFn := ⟨2,
 .seq (.ops [S 4 (.mv (xB false))])
 (.seq (.seq (.ops [S 5 (.mv (.t 0)),
   S 6 (.mv (.t 1)),
   S 7 (.call n_query_parser_is [(.t 5), (.t 6)]),
   S 8 (.un .not (.t 7))])
 (.cond (.t 8)
  (.seq (.ops [S 4 (.mv (xB false))])
  (.ret))
  (.skip)))
 (.seq (.ops [S 9 (.mv (.t 0)),
   S 10 (.nz (.t 9)),
   S 11 (.fld 0 (.t 10)),
   S 12 (.fld 1 (.t 11)),
   S 13 (.ld false 1 (.t 12)),
   S 14 (.bin .add .none (.t 13) (xI 1)),
   S 15 (.nz (.t 9)),
   S 16 (.fld 0 (.t 15)),
   S 17 (.fld 1 (.t 16)),
   E (.st 1 (.t 17) (.t 14))])
 (.seq (.ops [S 4 (.mv (xB true))])
 (.ret)))),
 [.tmp 4], false, false, false⟩
/- (*sibyl/query.parser).elem -/
def d_query_parser_elem : DFn := ⟨2,
 .seq (.ops [⟨(some 1), .mv (.v (.tup [])), none, [(1, .mv (.v (.p (.agg [(.bool true)]))), none)]⟩])
 (.block 900002 (.seq (.block 900001 (.seq (.block 900000 (.seq (.ops [S 2 (.new true [(eI 0), (.p (.str (bs []))), (eB false), (eB false)])])
    (.seq (.ops [S 6 (.mv (.t 0)),
      S 7 (.call n_query_parser_may [(.t 6), (.v (.p (.str (bs [33]))))]),
      S 3 (.mv (.t 7))])
    (.seq (.seq (.ops [S 8 (.mv (.t 0))])
    (.seq (.ops [S 3000 (.may (.v (.fn (.func 82) [] [])) [(.t 8), (xI 2)]),
      S 3001 (.ext (.t 3000) 0)])
    (.cond (.t 3001)
     (.seq (.ops [S 3002 (.ext (.t 3000) 1),
       S 3000 (.mv (.v (.tup []))),
       S 3001 (.mv (.v (.tup [])))])
     (.exit 900001))
     (.seq (.ops [S 9 (.ext (.t 3000) 1),
       S 3000 (.mv (.v (.tup []))),
       S 3001 (.mv (.v (.tup [])))])
     (.seq (.ops [S 10 (.fget 3 1 false (.t 9))])
     (.seq (.ops [S 4 (.mv (.t 10))])
     (.skip)))))))
    (.seq (.ops [S 11 (.mv (.t 0)),
      S 12 (.call n_query_parser_may [(.t 11), (.v (.p (.str (bs [43]))))]),
      S 5 (.mv (.t 12))])
    (.seq (.seq (.ops [S 13 (.mv (.t 4))])
    (.seq (.ops [S 14 (.mv (.t 0))])
    (.seq (.ops [S 3000 (.may (.v (.fn (.func 82) [] [])) [(.t 14), (xI 1)]),
      S 3001 (.ext (.t 3000) 0)])
    (.cond (.t 3001)
     (.seq (.ops [S 3002 (.ext (.t 3000) 1),
       S 3000 (.mv (.v (.tup []))),
       S 3001 (.mv (.v (.tup [])))])
     (.exit 900001))
     (.seq (.ops [S 15 (.ext (.t 3000) 1),
       S 3000 (.mv (.v (.tup []))),
       S 3001 (.mv (.v (.tup [])))])
     (.seq (.ops [S 16 (.fget 2 1 false (.t 15))])
     (.seq (.ops [S 17 (.mv (.t 5))])
     (.seq (.ops [S 18 (.mv (.t 3))])
     (.seq (.ops [S 19 (.build [(eI 0), (.p (.str (bs []))), (eB false), (eB false)] [(0, 1, (.t 13)), (1, 1, (.t 16)), (2, 1, (.t 17)), (3, 1, (.t 18))])])
     (.seq (.ops [E (.st 4 (.t 2) (.t 19))])
     (.skip)))))))))))
    (.exit 900000)))))))
   (.seq (.ops [S 3002 (.ld true 4 (.t 2))])
   (.seq (.ops [S 3001 (.mv (xB false))])
   (.exit 900002)))))
  (.ops [S 3001 (.mv (xB true))]))),
 [.tmp 3001, .tmp 3002], false, false, false⟩
/- (*sibyl/query.parser).cond -/
def d_query_parser_cond : DFn := ⟨1,
 .seq (.ops [S 2 (.new true [(eI 0), (.full []), (.full [])])])
 (.seq (.ops [S 4 (.mv (.t 0)),
   S 5 (.call 108 [(.t 4)]),
   S 6 (.build [(eI 0), (.full []), (.full [])] [(1, 1, (.t 5))]),
   S 3 (.new true [(eI 0), (.full []), (.full [])]),
   E (.st 3 (.t 3) (.t 6))])
 (.seq (.ops [E (.nz (.v .junk))])
 (.seq (.ops [S 12 (.mv (.t 0)),
   S 13 (.fld 0 (.t 3)),
   S 14 (.ld false 1 (.t 13)),
   S 15 (.bin .gtr .none (.t 14) (xI 0)),
   S 16 (.call 78 [(.t 12), (.t 15)])])
 (.seq (.ops [S 17 (.mv (.t 0)),
   S 18 (.call 108 [(.t 17)]),
   S 19 (.fld 2 (.t 3)),
   E (.st 1 (.t 19) (.t 18))])
 (.seq (.ops [S 20 (.ld true 3 (.t 3)),
   E (.st 3 (.t 2) (.t 20))])
 (.ret)))))),
 [.cell 2 true 3], false, false, false⟩
/- (*sibyl/query.parser).kind -/
def d_query_parser_kind : DFn := ⟨3,
 .seq (.ops [⟨(some 2), .mv (.v (.tup [])), none, [(2, .mv (.v (.p (.agg [(.bool true)]))), none)]⟩])
 (.block 900002 (.seq (.block 900001 (.seq (.block 900000 (.seq (.ops [S 4 (.new true [(eI 0), (eI 0), (.p (.str (bs []))), (eI 0)])])
    (.seq (.ops [S 8 (.mv (.t 0)),
      S 9 (.nz (.t 8)),
      S 10 (.fld 0 (.t 9)),
      S 11 (.call n_query_row_now [(.t 10)]),
      S 7 (.mv (.t 11)),
      S 12 (.ext (.t 7) 0),
      S 13 (.ext (.t 7) 1),
      S 5 (.new true [(eI 0), (eI 0), (.p (.str (bs []))), (eI 0)]),
      E (.st 4 (.t 5) (.t 12)),
      S 6 (.mv (.t 13))])
    (.seq (.seq (.ops [S 14 (.mv (.t 0))])
    (.seq (.ops [S 15 (.mv (.t 6))])
    (.seq (.ops [S 16 (.mv (.t 15))])
    (.seq (.ops [⟨(some 17), .fld 0 (.t 5), (some (16, true)), []⟩])
    (.seq (.ops [⟨(some 18), .ld false 1 (.t 17), (some (16, true)), []⟩])
    (.seq (.ops [⟨(some 19), .mv (.t 1), (some (16, true)), []⟩])
    (.seq (.ops [⟨(some 20), .bin .eql .none (.t 18) (.t 19), (some (16, true)), []⟩])
    (.seq (.ops [S 21 (.pick (.t 16) (.t 20) (xB false))])
    (.seq (.ops [S 22 (.mv (.t 21))])
    (.seq (.ops [⟨(some 23), .mv (.t 1), (some (22, true)), []⟩])
    (.seq (.ops [⟨(some 24), .bin .neq .none (.t 23) (xI 1), (some (22, true)), []⟩])
    (.seq (.ops [⟨(some 25), .mv (.t 24), (some (22, true)), []⟩])
    (.seq (.ops [⟨(some 26), .fld 2 (.t 5), (some (25, false)), []⟩])
    (.seq (.ops [⟨(some 27), .ld false 1 (.t 26), (some (25, false)), []⟩])
    (.seq (.ops [⟨(some 28), .call 111 [(.t 27)], (some (25, false)), []⟩])
    (.seq (.ops [⟨(some 29), .un .not (.t 28), (some (25, false)), []⟩])
    (.seq (.ops [⟨(some 30), .pick (.t 25) (xB true) (.t 29), (some (22, true)), []⟩])
    (.seq (.ops [S 31 (.pick (.t 22) (.t 30) (xB false))])
    (.seq (.ops [S 3000 (.may (.v (.fn (.func 78) [] [])) [(.t 14), (.t 31)]),
      S 3001 (.ext (.t 3000) 0)])
    (.cond (.t 3001)
     (.seq (.ops [S 3002 (.ext (.t 3000) 1),
       S 3000 (.mv (.v (.tup []))),
       S 3001 (.mv (.v (.tup [])))])
     (.exit 900001))
     (.seq (.ops [S 32 (.ext (.t 3000) 1),
       S 3000 (.mv (.v (.tup []))),
       S 3001 (.mv (.v (.tup [])))])
     (.skip))))))))))))))))))))))
    (.seq (.ops [S 33 (.mv (.t 0)),
      S 34 (.nz (.t 33)),
      S 35 (.fld 0 (.t 34)),
      S 36 (.fld 1 (.t 35)),
      S 37 (.ld false 1 (.t 36)),
      S 38 (.bin .add .none (.t 37) (xI 1)),
      S 39 (.nz (.t 33)),
      S 40 (.fld 0 (.t 39)),
      S 41 (.fld 1 (.t 40)),
      E (.st 1 (.t 41) (.t 38))])
    (.seq (.ops [S 42 (.ld true 4 (.t 5)),
      E (.st 4 (.t 4) (.t 42))])
    (.exit 900000)))))))
   (.seq (.ops [S 3002 (.ld true 4 (.t 4))])
   (.seq (.ops [S 3001 (.mv (xB false))])
   (.exit 900002)))))
  (.ops [S 3001 (.mv (xB true))]))),
 [.tmp 3001, .tmp 3002], false, false, false⟩
/- sibyl/sibylref02.Lex -/
def d_rLex : DFn := ⟨1,
 .seq (.ops [S 2 (.new true [(.full []), (eI 0), (eI 0)])])
 (.seq (.ops [S 4 (.mv (.t 0)),
   S 5 (.call n_rEach [(.t 4)]),
   S 3 (.new true [(.full []), (eI 0)]),
   E (.st 2 (.t 3) (.t 5))])
 (.seq (.seq (.ops [S 6 (.fld 0 (.t 3)),
   S 7 (.ld false 1 (.t 6)),
   S 8 (.len 0 (.t 7)),
   S 9 (.bin .gtr .none (.t 8) (xI 200))])
 (.cond (.t 9)
  (.seq (.ops [S 10 (.fld 0 (.t 3)),
    S 11 (.ld false 1 (.t 10)),
    S 12 (.ixa 4 (.t 11) (xI 200)),
    S 13 (.fld 1 (.t 12)),
    S 14 (.ld false 1 (.t 13)),
    S 15 (.build [(.full []), (eI 0), (eI 0)] [(1, 1, (.t 14)), (2, 1, (xI 12))]),
    E (.st 3 (.t 2) (.t 15))])
  (.ret))
  (.skip)))
 (.seq (.seq (.ops [S 16 (.fld 1 (.t 3)),
   S 17 (.ld false 1 (.t 16)),
   S 18 (.mv (.t 0)),
   S 19 (.len 1 (.t 18)),
   S 20 (.bin .lss .none (.t 17) (.t 19))])
 (.cond (.t 20)
  (.seq (.ops [S 21 (.fld 1 (.t 3)),
    S 22 (.ld false 1 (.t 21)),
    S 23 (.build [(.full []), (eI 0), (eI 0)] [(1, 1, (.t 22)), (2, 1, (xI 10))]),
    E (.st 3 (.t 2) (.t 23))])
  (.ret))
  (.skip)))
 (.seq (.ops [S 24 (.fld 0 (.t 3)),
   S 25 (.ld false 1 (.t 24)),
   S 26 (.mv (.t 0)),
   S 27 (.len 1 (.t 26)),
   S 28 (.build [(.full []), (eI 0), (eI 0)] [(0, 1, (.t 25)), (1, 1, (.t 27))]),
   E (.st 3 (.t 2) (.t 28))])
 (.ret))))),
 [.cell 2 true 3], true, true, false⟩
/- sibyl/sibylref03.keyword -/
def d_rkeyword : DFn := ⟨1,
 .seq (.ops [S 2 (.mv (xB false))])
 (.seq (.ops [S 3 (.mv (.t 0)),
   S 4 (.bin .eql .none (.t 3) (.v (.p (.str (bs [115, 101, 113]))))),
   S 5 (.mv (.t 4)),
   ⟨(some 6), .mv (.t 0), (some (5, false)), []⟩,
   ⟨(some 7), .bin .eql .none (.t 6) (.v (.p (.str (bs [119, 104, 101, 114, 101])))), (some (5, false)), []⟩,
   S 8 (.pick (.t 5) (xB true) (.t 7)),
   S 9 (.mv (.t 8)),
   ⟨(some 10), .mv (.t 0), (some (9, false)), []⟩,
   ⟨(some 11), .bin .eql .none (.t 10) (.v (.p (.str (bs [97, 110, 100])))), (some (9, false)), []⟩,
   S 12 (.pick (.t 9) (xB true) (.t 11)),
   S 13 (.mv (.t 12)),
   ⟨(some 14), .mv (.t 0), (some (13, false)), []⟩,
   ⟨(some 15), .bin .eql .none (.t 14) (.v (.p (.str (bs [119, 105, 116, 104, 105, 110])))), (some (13, false)), []⟩,
   S 16 (.pick (.t 13) (xB true) (.t 15)),
   S 17 (.mv (.t 16)),
   ⟨(some 18), .mv (.t 0), (some (17, false)), []⟩,
   ⟨(some 19), .bin .eql .none (.t 18) (.v (.p (.str (bs [98, 121])))), (some (17, false)), []⟩,
   S 20 (.pick (.t 17) (xB true) (.t 19)),
   S 21 (.mv (.t 20)),
   ⟨(some 22), .mv (.t 0), (some (21, false)), []⟩,
   ⟨(some 23), .bin .eql .none (.t 22) (.v (.p (.str (bs [107, 101, 121])))), (some (21, false)), []⟩,
   S 24 (.pick (.t 21) (xB true) (.t 23)),
   S 2 (.mv (.t 24))])
 (.ret)),
 [.tmp 2], false, true, false⟩
/- (*sibyl/client.Client).wait -/
def d_client_Client_wait : DFn := ⟨1,
 .seq (.ops [S 5 (.mv (.t 0)),
   S 6 (.nz (.t 5)),
   S 7 (.fld 0 (.t 6)),
   S 8 (.ld false 1 (.t 7)),
   S 9 (.mv (.t 0)),
   S 10 (.nz (.t 9)),
   S 11 (.fld 16 (.t 10)),
   S 12 (.ld false 1 (.t 11)),
   S 2 (.new true [(eI 0), (eI 0), (.full [])]),
   S 13 (.call n_log_Log_Answer [(.t 8), (.t 12)]),
   S 4 (.mv (.t 13)),
   S 14 (.ext (.t 4) 0),
   S 15 (.ext (.t 4) 1),
   E (.st 3 (.t 2) (.t 14)),
   S 3 (.mv (.t 15))])
 (.seq (.ops [S 16 (.mv (.t 3))])
 (.cond (.t 16)
  (.ops [S 17 (.mv (.t 0)),
    S 18 (.mv (.t 0)),
    S 19 (.ld true 3 (.t 2)),
    S 20 (.nz (.t 17)),
    S 21 (.fld 14 (.t 20)),
    ⟨none, .st 1 (.t 21) (.v .nilf), none, [(19, .ld true 3 (.t 2), none)]⟩,
    S 22 (.nz (.t 18)),
    S 23 (.fld 20 (.t 22)),
    E (.st 3 (.t 23) (.t 19))])
  (.skip))),
 [], false, false, false⟩
/- (*sibyl/store.Store).Add -/
def d_store_Store_Add : DFn := ⟨3,
 .seq (.ops [S 3 (.box false 1 (.t 0)),
   S 4 (.box true 2 (.t 1)),
   S 5 (.box false 1 (.t 2)),
   S 6 (.mv (xI 0)),
   S 7 (.mv (xB false))])
 (.seq (.ops [S 8 (.new false [(eI 0)]),
   E (.st 1 (.t 8) (xI 0))])
 (.seq (.ops [S 10 (.ld false 1 (.t 3)),
   S 11 (.ld true 2 (.t 4)),
   S 12 (.mkf (.func n_store_Store_Add_1) [] [(.t 5), (.t 8), (.t 3)]),
   S 13 (.call n_store_Store_with [(.t 10), (.t 11), (.t 12)]),
   S 9 (.mv (.t 13))])
 (.seq (.ops [S 14 (.ld false 1 (.t 8)),
   S 15 (.mv (.t 9)),
   S 6 (.mv (.t 14)),
   S 7 (.mv (.t 15))])
 (.ret)))),
 [.tmp 6, .tmp 7], false, false, false⟩
/- (*sibyl/client.Client).free -/
def d_client_Client_free : DFn := ⟨1,
 .seq (.ops [S 2 (.mv (.t 0)),
   S 3 (.nz (.t 2)),
   S 4 (.fld 0 (.t 3)),
   S 5 (.ld false 1 (.t 4)),
   S 7 (.mv (.t 0)),
   S 8 (.nz (.t 7)),
   S 9 (.fld 18 (.t 8)),
   S 10 (.ld true 2 (.t 9)),
   ⟨(some 6), .call n_log_Log_Store [(.t 5)], none, [(10, .ld true 2 (.t 9), none)]⟩,
   S 11 (.call n_store_Store_Free [(.t 6), (.t 10)])])
 (.seq (.ops [S 12 (.mv (.t 0)),
   S 13 (.mv (.t 0)),
   S 14 (.build [(eI 0), (eI 0)] []),
   S 15 (.nz (.t 12)),
   S 16 (.fld 18 (.t 15)),
   E (.st 2 (.t 16) (.t 14)),
   S 17 (.nz (.t 13)),
   S 18 (.fld 17 (.t 17)),
   E (.st 1 (.t 18) (xB false))])
 (.ops [S 19 (.mv (.t 0)),
   S 20 (.mv (.t 0)),
   S 21 (.mkf (.func n_client_Client_look) [(.t 20)] []),
   S 22 (.nz (.t 19)),
   S 23 (.fld 14 (.t 22)),
   E (.st 1 (.t 23) (.t 21))])),
 [], false, false, false⟩
/- strings.IndexByte -/
def d_strings_IndexByte : DFn := ⟨2,
 .seq (.ops [S 4 (.mv (xI 0))])
 (.seq (.ops [S 5 (.mv (.t 0)),
   S 6 (.mv (.t 1)),
   S 7 (.call n_internal_stringslite_IndexByte [(.t 5), (.t 6)]),
   S 4 (.mv (.t 7))])
 (.ret)),
 [.tmp 4], false, false, false⟩
/- sibyl/lex.Each$1 -/
def d_lex_Each_1 : DFn := ⟨2,
 .seq (.ops [S 5 (.ld false 1 (.t 1)),
   S 6 (.call n_lex_skip [(.t 5), (xI 0)]),
   S 3 (.mv (.t 6))])
 (.seq (.skip)
 (.block 0 (.loop [0, 1, 3] (.seq (.seq (.ops [S 7 (.mv (.t 3)),
     S 8 (.ld false 1 (.t 1)),
     S 9 (.len 1 (.t 8)),
     S 10 (.bin .lss .none (.t 7) (.t 9))])
   (.cond (.t 10)
    (.skip)
    (.exit 0)))
   (.block 1 (.seq (.ops [S 11 (.ld false 1 (.t 1)),
      S 12 (.mv (.t 3)),
      S 13 (.sls (.t 11) (some (.t 12)) none),
      S 14 (.call n_lex_next [(.t 13)]),
      S 4 (.new true [(eI 0), (eI 0), (.p (.str (bs []))), (eI 0)]),
      E (.st 4 (.t 4) (.t 14))])
    (.seq (.ops [S 15 (.mv (.t 3)),
      S 16 (.fld 1 (.t 4)),
      E (.st 1 (.t 16) (.t 15))])
    (.seq (.seq (.ops [S 17 (.fld 0 (.t 4)),
      S 18 (.ld false 1 (.t 17)),
      S 19 (.bin .eql .none (.t 18) (xI 0)),
      S 20 (.mv (.t 19)),
      ⟨(some 21), .mv (.t 0), (some (20, false)), []⟩,
      ⟨(some 22), .ld true 4 (.t 4), (some (20, false)), []⟩,
      ⟨(some 23), .callv (.t 21) [(.t 22)], (some (20, false)), []⟩,
      ⟨(some 24), .un .not (.t 23), (some (20, false)), []⟩,
      S 25 (.pick (.t 20) (xB true) (.t 24))])
    (.cond (.t 25)
     (.exit 0)
     (.skip)))
    (.ops [S 26 (.ld false 1 (.t 1)),
      S 27 (.mv (.t 3)),
      S 28 (.fld 2 (.t 4)),
      S 29 (.ld false 1 (.t 28)),
      S 30 (.len 1 (.t 29)),
      S 31 (.bin .add .none (.t 27) (.t 30)),
      S 32 (.call n_lex_skip [(.t 26), (.t 31)]),
      S 3 (.mv (.t 32))]))))))))),
 [], false, false, false⟩
/- sibyl/lex.next -/
def d_lex_next : DFn := ⟨1,
 .seq (.ops [S 2 (.new true [(eI 0), (eI 0), (.p (.str (bs []))), (eI 0)])])
 (.seq (.ops [S 3 (.mv (.v (.fn (.func 131) [] [])))])
 (.seq (.seq (.ops [S 9 (.mv (.t 0)),
   S 10 (.ixs (.t 9) (xI 0)),
   S 4 (.mv (.t 10))])
 (.block 0 (.seq (.ops [S 18 (.mv (.t 4)),
    S 19 (.call n_lex_small [(.t 18)]),
    S 17 (.mv (.t 19))])
  (.cond (.t 17)
   (.seq (.ops [S 20 (.mv (.t 0)),
     S 21 (.mv (.t 0)),
     S 22 (.mv (.t 3)),
     S 23 (.call n_lex_run [(.t 21), (.t 22)]),
     S 24 (.sls (.t 20) none (some (.t 23))),
     S 25 (.build [(eI 0), (eI 0), (.p (.str (bs []))), (eI 0)] [(0, 1, (xI 1)), (2, 1, (.t 24))]),
     E (.st 4 (.t 2) (.t 25))])
   (.ret))
   (.seq (.ops [S 27 (.mv (.t 4)),
     S 28 (.call n_lex_digit [(.t 27)]),
     S 26 (.mv (.t 28))])
   (.cond (.t 26)
    (.seq (.ops [S 29 (.mv (.t 0)),
      S 30 (.call n_lex_run [(.t 29), (.v (.fn (.func 133) [] []))]),
      S 5 (.mv (.t 30))])
    (.seq (.ops [S 32 (.mv (.t 0)),
      S 33 (.mv (.t 5)),
      S 34 (.sls (.t 32) none (some (.t 33))),
      S 35 (.call n_lex_number [(.t 34)]),
      S 31 (.mv (.t 35)),
      S 36 (.ext (.t 31) 0),
      S 37 (.ext (.t 31) 1),
      S 6 (.mv (.t 36)),
      S 7 (.mv (.t 37))])
    (.seq (.ops [S 38 (.mv (.t 7)),
      S 39 (.mv (.t 38)),
      ⟨(some 40), .mv (.t 0), (some (39, true)), []⟩,
      ⟨(some 41), .mv (.t 5), (some (39, true)), []⟩,
      ⟨(some 42), .sls (.t 40) (some (.t 41)) none, (some (39, true)), []⟩,
      ⟨(some 43), .call n_lex_ends [(.t 42), (.v (.fn (.func 137) [] []))], (some (39, true)), []⟩,
      S 44 (.pick (.t 39) (.t 43) (xB false))])
    (.cond (.t 44)
     (.seq (.ops [S 45 (.mv (.t 0)),
       S 46 (.mv (.t 5)),
       S 47 (.sls (.t 45) none (some (.t 46))),
       S 48 (.mv (.t 6)),
       S 49 (.build [(eI 0), (eI 0), (.p (.str (bs []))), (eI 0)] [(0, 1, (xI 3)), (2, 1, (.t 47)), (3, 1, (.t 48))]),
       E (.st 4 (.t 2) (.t 49))])
     (.ret))
     (.skip)))))
    (.seq (.ops [S 51 (.mv (.t 4)),
      S 52 (.bin .leq .none (.v (.p (.int .u8 65))) (.t 51)),
      S 53 (.mv (.t 52)),
      ⟨(some 54), .mv (.t 4), (some (53, true)), []⟩,
      ⟨(some 55), .bin .leq .none (.t 54) (.v (.p (.int .u8 72))), (some (53, true)), []⟩,
      S 56 (.pick (.t 53) (.t 55) (xB false)),
      S 50 (.mv (.t 56))])
    (.cond (.t 50)
     (.seq (.ops [S 57 (.mv (.t 0)),
       S 58 (.sls (.t 57) (some (xI 1)) none),
       S 59 (.call n_lex_ends [(.t 58), (.v (.fn (.func 137) [] []))]),
       S 60 (.mv (.t 59)),
       ⟨(some 61), .mv (.t 0), (some (60, true)), []⟩,
       ⟨(some 62), .sls (.t 61) (some (xI 1)) none, (some (60, true)), []⟩,
       ⟨(some 63), .call n_lex_ends [(.t 62), (.v (.fn (.func 133) [] []))], (some (60, true)), []⟩,
       S 64 (.pick (.t 60) (.t 63) (xB false))])
     (.cond (.t 64)
      (.seq (.ops [S 65 (.mv (.t 0)),
        S 66 (.sls (.t 65) none (some (xI 1))),
        S 67 (.mv (.t 4)),
        S 68 (.bin .sub .none (.t 67) (.v (.p (.int .u8 65)))),
        S 69 (.conv .i64 (.t 68)),
        S 70 (.build [(eI 0), (eI 0), (.p (.str (bs []))), (eI 0)] [(0, 1, (xI 2)), (2, 1, (.t 66)), (3, 1, (.t 69))]),
        E (.st 4 (.t 2) (.t 70))])
      (.ret))
      (.skip)))
     (.seq (.ops [S 11 (.mv (.t 0)),
       S 12 (.call n_lex_sign [(.t 11)]),
       S 8 (.mv (.t 12))])
     (.seq (.ops [S 13 (.mv (.t 8)),
       S 14 (.bin .neq .none (.t 13) (.v (.p (.str (bs [])))))])
     (.cond (.t 14)
      (.seq (.ops [S 15 (.mv (.t 8)),
        S 16 (.build [(eI 0), (eI 0), (.p (.str (bs []))), (eI 0)] [(0, 1, (xI 4)), (2, 1, (.t 15))]),
        E (.st 4 (.t 2) (.t 16))])
      (.ret))
      (.skip))))))))))))
 (.seq (.ops [S 71 (.build [(eI 0), (eI 0), (.p (.str (bs []))), (eI 0)] []),
   E (.st 4 (.t 2) (.t 71))])
 (.ret)))),
 [.cell 2 true 4], false, false, false⟩
/- (*sibyl/query.parser).at -/
def d_query_parser_at : DFn := ⟨1,
 .seq (.ops [S 2 (.mv (xI 0))])
 (.seq (.ops [S 6 (.mv (.t 0)),
   S 7 (.nz (.t 6)),
   S 8 (.fld 0 (.t 7)),
   S 9 (.call n_query_row_now [(.t 8)]),
   S 5 (.mv (.t 9)),
   S 10 (.ext (.t 5) 0),
   S 11 (.ext (.t 5) 1),
   S 3 (.new true [(eI 0), (eI 0), (.p (.str (bs []))), (eI 0)]),
   E (.st 4 (.t 3) (.t 10)),
   S 4 (.mv (.t 11))])
 (.seq (.seq (.ops [S 12 (.mv (.t 4)),
   S 13 (.un .not (.t 12))])
 (.cond (.t 13)
  (.seq (.ops [S 14 (.mv (.t 0)),
    S 15 (.nz (.t 14)),
    S 16 (.fld 2 (.t 15)),
    S 17 (.ld false 1 (.t 16)),
    S 2 (.mv (.t 17))])
  (.ret))
  (.skip)))
 (.seq (.ops [S 18 (.fld 1 (.t 3)),
   S 19 (.ld false 1 (.t 18)),
   S 2 (.mv (.t 19))])
 (.ret)))),
 [.tmp 2], false, false, false⟩
/- (*sibyl/query.parser).is -/
def d_query_parser_is : DFn := ⟨2,
 .seq (.ops [S 4 (.mv (xB false))])
 (.seq (.ops [S 8 (.mv (.t 0)),
   S 9 (.nz (.t 8)),
   S 10 (.fld 0 (.t 9)),
   S 11 (.call n_query_row_now [(.t 10)]),
   S 7 (.mv (.t 11)),
   S 12 (.ext (.t 7) 0),
   S 13 (.ext (.t 7) 1),
   S 5 (.new true [(eI 0), (eI 0), (.p (.str (bs []))), (eI 0)]),
   E (.st 4 (.t 5) (.t 12)),
   S 6 (.mv (.t 13))])
 (.seq (.ops [S 14 (.mv (.t 6)),
   S 15 (.mv (.t 14)),
   ⟨(some 16), .fld 2 (.t 5), (some (15, true)), []⟩,
   ⟨(some 17), .ld false 1 (.t 16), (some (15, true)), []⟩,
   ⟨(some 18), .mv (.t 1), (some (15, true)), []⟩,
   ⟨(some 19), .bin .eql .none (.t 17) (.t 18), (some (15, true)), []⟩,
   S 20 (.pick (.t 15) (.t 19) (xB false)),
   S 4 (.mv (.t 20))])
 (.ret))),
 [.tmp 4], false, false, false⟩
/- (*sibyl/query.parser).pick -/
def d_query_parser_pick : DFn := ⟨2,
 .seq (.ops [S 4 (.mv (xI 0))])
 (.seq (.ops [S 5 (.mv (.t 1)),
   S 6 (.mv (.t 0)),
   S 7 (.mkf (.func n_query_parser_may) [(.t 6)] []),
   S 8 (.call n_slices_IndexFunc_141 [(.t 5), (.t 7)]),
   S 4 (.mv (.t 8))])
 (.ret)),
 [.tmp 4], false, false, false⟩
/- (*sibyl/query.row[sibyl/api.Token]).now -/
def d_query_row_now : DFn := ⟨1,
 .seq (.ops [S 2 (.new true [(eI 0), (eI 0), (.p (.str (bs []))), (eI 0)]),
   S 3 (.mv (xB false))])
 (.seq (.seq (.ops [S 5 (.mv (.t 0)),
   S 6 (.nz (.t 5)),
   S 7 (.fld 1 (.t 6)),
   S 8 (.ld false 1 (.t 7)),
   S 9 (.mv (.t 0)),
   S 10 (.nz (.t 9)),
   S 11 (.fld 0 (.t 10)),
   S 12 (.ld false 1 (.t 11)),
   S 13 (.len 0 (.t 12)),
   S 14 (.bin .lss .none (.t 8) (.t 13))])
 (.cond (.t 14)
  (.seq (.ops [S 15 (.mv (.t 0)),
    S 16 (.nz (.t 15)),
    S 17 (.fld 0 (.t 16)),
    S 18 (.ld false 1 (.t 17)),
    S 19 (.mv (.t 0)),
    S 20 (.nz (.t 19)),
    S 21 (.fld 1 (.t 20)),
    S 22 (.ld false 1 (.t 21)),
    S 23 (.ixa 4 (.t 18) (.t 22)),
    S 24 (.ld true 4 (.t 23)),
    E (.st 4 (.t 2) (.t 24)),
    S 3 (.mv (xB true))])
  (.ret))
  (.skip)))
 (.seq (.ops [S 4 (.new true [(eI 0), (eI 0), (.p (.str (bs []))), (eI 0)])])
 (.seq (.ops [S 25 (.ld true 4 (.t 4)),
   E (.st 4 (.t 2) (.t 25)),
   S 3 (.mv (xB false))])
 (.ret)))),
 [.cell 2 true 4, .tmp 3], false, false, false⟩
/- sibyl/sibylref02.Each -/
def d_rEach : DFn := ⟨1,
 .seq (.ops [S 2 (.new true [(.full []), (eI 0)])])
 (.seq (.ops [S 6 (.build [(.full []), (eI 0)] []),
   S 3 (.new true [(.full []), (eI 0)]),
   E (.st 2 (.t 3) (.t 6))])
 (.seq (.block 0 (.loop [0, 2, 3] (.seq (.seq (.ops [S 7 (.fld 1 (.t 3)),
     S 8 (.ld false 1 (.t 7)),
     S 9 (.mv (.t 0)),
     S 10 (.len 1 (.t 9)),
     S 11 (.bin .lss .none (.t 8) (.t 10))])
   (.cond (.t 11)
    (.skip)
    (.exit 0)))
   (.block 1 (.seq (.ops [S 12 (.mv (.t 0)),
      S 13 (.fld 1 (.t 3)),
      S 14 (.ld false 1 (.t 13)),
      S 15 (.ixs (.t 12) (.t 14)),
      S 16 (.call n_rblank [(.t 15)]),
      S 4 (.mv (.t 16))])
    (.seq (.seq (.ops [S 17 (.mv (.t 4))])
    (.cond (.t 17)
     (.seq (.ops [S 18 (.fld 1 (.t 3)),
       S 19 (.ld false 1 (.t 18)),
       S 20 (.bin .add .none (.t 19) (xI 1)),
       S 21 (.fld 1 (.t 3)),
       E (.st 1 (.t 21) (.t 20))])
     (.exit 1))
     (.skip)))
    (.seq (.ops [S 22 (.mv (.t 0)),
      S 23 (.fld 1 (.t 3)),
      S 24 (.ld false 1 (.t 23)),
      S 25 (.call n_rNext [(.t 22), (.t 24)]),
      S 5 (.new true [(eI 0), (eI 0), (.p (.str (bs []))), (eI 0)]),
      E (.st 4 (.t 5) (.t 25))])
    (.seq (.seq (.ops [S 26 (.fld 0 (.t 5)),
      S 27 (.ld false 1 (.t 26)),
      S 28 (.bin .eql .none (.t 27) (xI 0))])
    (.cond (.t 28)
     (.seq (.ops [S 29 (.ld true 2 (.t 3)),
       E (.st 2 (.t 2) (.t 29))])
     (.ret))
     (.skip)))
    (.seq (.ops [S 30 (.fld 0 (.t 3)),
      S 31 (.ld false 1 (.t 30)),
      S 32 (.ld true 4 (.t 5)),
      S 33 (.lit 4 true [[(eI 0), (eI 0), (.p (.str (bs []))), (eI 0)]] [(0, (.t 32))]),
      S 34 (.app 4 true 40 (.t 31) (.t 33)),
      S 35 (.fld 0 (.t 3)),
      E (.st 1 (.t 35) (.t 34))])
    (.ops [S 36 (.fld 1 (.t 3)),
      S 37 (.ld false 1 (.t 36)),
      S 38 (.fld 2 (.t 5)),
      S 39 (.ld false 1 (.t 38)),
      S 40 (.len 1 (.t 39)),
      S 41 (.bin .add .none (.t 37) (.t 40)),
      S 42 (.fld 1 (.t 3)),
      E (.st 1 (.t 42) (.t 41))]))))))))))
 (.seq (.ops [S 43 (.ld true 2 (.t 3)),
   E (.st 2 (.t 2) (.t 43))])
 (.ret)))),
 [.cell 2 true 2], true, true, false⟩
/- (*sibyl/log.Log).Answer -/
def d_log_Log_Answer : DFn := ⟨2,
 .seq (.ops [S 4 (.new true [(eI 0), (eI 0), (.full [])]),
   S 5 (.mv (xB false))])
 (.seq (.seq (.ops [S 8 (.mv (.t 0)),
   S 9 (.bin .eql .ptr (.t 8) (.v .nilp))])
 (.cond (.t 9)
  (.seq (.ops [S 10 (.build [(eI 0), (eI 0), (.full [])] []),
    E (.st 3 (.t 4) (.t 10)),
    S 5 (.mv (xB false))])
  (.ret))
  (.skip)))
 (.seq (.ops [S 12 (.mv (.t 0)),
   S 13 (.nz (.t 12)),
   S 14 (.fld 14 (.t 13)),
   S 15 (.ld false 1 (.t 14)),
   S 16 (.mv (.t 1)),
   S 17 (.look .int (.agg [(eI 0), (eI 0), (.full [])]) true (.t 15) (.t 16)),
   S 11 (.mv (.t 17)),
   S 18 (.ext (.t 11) 0),
   S 19 (.ext (.t 11) 1),
   S 6 (.new true [(eI 0), (eI 0), (.full [])]),
   E (.st 3 (.t 6) (.t 18)),
   S 7 (.mv (.t 19))])
 (.seq (.ops [S 20 (.mv (.t 0)),
   S 21 (.nz (.t 20)),
   S 22 (.fld 14 (.t 21)),
   S 23 (.ld false 1 (.t 22)),
   S 24 (.mv (.t 1)),
   E (.del .int (.t 23) (.t 24))])
 (.seq (.ops [S 25 (.ld true 3 (.t 6)),
   S 26 (.mv (.t 7)),
   E (.st 3 (.t 4) (.t 25)),
   S 5 (.mv (.t 26))])
 (.ret))))),
 [.cell 4 true 3, .tmp 5], false, false, false⟩
/- (*sibyl/store.Store).with -/
def d_store_Store_with : DFn := ⟨3,
 .seq (.ops [S 4 (.box true 2 (.t 1)),
   S 6 (.mv (xB false))])
 (.seq (.seq (.ops [S 8 (.mv (.t 0)),
   S 9 (.bin .eql .ptr (.t 8) (.v .nilp)),
   S 10 (.mv (.t 9)),
   ⟨(some 11), .fld 0 (.t 4), (some (10, false)), []⟩,
   ⟨(some 12), .ld false 1 (.t 11), (some (10, false)), []⟩,
   ⟨(some 13), .bin .lss .none (.t 12) (xI 0), (some (10, false)), []⟩,
   S 14 (.pick (.t 10) (xB true) (.t 13)),
   S 15 (.mv (.t 14)),
   ⟨(some 16), .fld 0 (.t 4), (some (15, false)), []⟩,
   ⟨(some 17), .ld false 1 (.t 16), (some (15, false)), []⟩,
   ⟨(some 18), .mv (.t 0), (some (15, false)), []⟩,
   ⟨(some 19), .nz (.t 18), (some (15, false)), []⟩,
   ⟨(some 20), .fld 0 (.t 19), (some (15, false)), []⟩,
   ⟨(some 21), .ld false 1 (.t 20), (some (15, false)), []⟩,
   ⟨(some 22), .len 0 (.t 21), (some (15, false)), []⟩,
   ⟨(some 23), .bin .geq .none (.t 17) (.t 22), (some (15, false)), []⟩,
   S 24 (.pick (.t 15) (xB true) (.t 23))])
 (.cond (.t 24)
  (.seq (.ops [S 6 (.mv (xB false))])
  (.ret))
  (.skip)))
 (.seq (.ops [S 25 (.mv (.t 0)),
   S 26 (.nz (.t 25)),
   S 27 (.fld 0 (.t 26)),
   S 28 (.ld false 1 (.t 27)),
   S 29 (.fld 0 (.t 4)),
   S 30 (.ld false 1 (.t 29)),
   S 31 (.ixa 9 (.t 28) (.t 30)),
   S 7 (.mv (.t 31))])
 (.seq (.ops [S 32 (.mv (.t 7)),
   S 33 (.nz (.t 32)),
   S 34 (.fld 1 (.t 33)),
   S 35 (.ld false 1 (.t 34)),
   S 36 (.mv (.t 35)),
   ⟨(some 37), .mv (.t 7), (some (36, true)), []⟩,
   ⟨(some 38), .nz (.t 37), (some (36, true)), []⟩,
   ⟨(some 39), .fld 0 (.t 38), (some (36, true)), []⟩,
   ⟨(some 40), .ld false 1 (.t 39), (some (36, true)), []⟩,
   ⟨(some 41), .fld 1 (.t 4), (some (36, true)), []⟩,
   ⟨(some 42), .ld false 1 (.t 41), (some (36, true)), []⟩,
   ⟨(some 43), .bin .eql .none (.t 40) (.t 42), (some (36, true)), []⟩,
   S 44 (.pick (.t 36) (.t 43) (xB false)),
   S 45 (.mv (.t 44)),
   ⟨(some 46), .mv (.t 2), (some (45, true)), []⟩,
   ⟨(some 47), .mv (.t 7), (some (45, true)), []⟩,
   ⟨(some 48), .callv (.t 46) [(.t 47)], (some (45, true)), []⟩,
   S 49 (.pick (.t 45) (.t 48) (xB false)),
   S 6 (.mv (.t 49))])
 (.ret)))),
 [.tmp 6], false, false, false⟩
/- (*sibyl/store.Store).Add$1 -/
def d_store_Store_Add_1 : DFn := ⟨4,
 .seq (.ops [S 5 (.mv (xB false))])
 (.seq (.seq (.ops [S 6 (.mv (.t 0)),
   S 7 (.nz (.t 6)),
   S 8 (.fld 8 (.t 7)),
   S 9 (.ld false 1 (.t 8)),
   S 10 (.bin .eql .none (.t 9) (xI 0)),
   S 11 (.mv (.t 10)),
   ⟨(some 12), .ld false 1 (.t 1), (some (11, false)), []⟩,
   ⟨(some 13), .mv (.t 0), (some (11, false)), []⟩,
   ⟨(some 14), .nz (.t 13), (some (11, false)), []⟩,
   ⟨(some 15), .fld 8 (.t 14), (some (11, false)), []⟩,
   ⟨(some 16), .ld false 1 (.t 15), (some (11, false)), []⟩,
   ⟨(some 17), .un .neg (.t 16), (some (11, false)), []⟩,
   ⟨(some 18), .bin .lss .none (.t 12) (.t 17), (some (11, false)), []⟩,
   S 19 (.pick (.t 11) (xB true) (.t 18)),
   S 20 (.mv (.t 19)),
   ⟨(some 21), .ld false 1 (.t 1), (some (20, false)), []⟩,
   ⟨(some 22), .mv (.t 0), (some (20, false)), []⟩,
   ⟨(some 23), .nz (.t 22), (some (20, false)), []⟩,
   ⟨(some 24), .fld 8 (.t 23), (some (20, false)), []⟩,
   ⟨(some 25), .ld false 1 (.t 24), (some (20, false)), []⟩,
   ⟨(some 26), .bin .sub .none (xI 1099511627776) (.t 25), (some (20, false)), []⟩,
   ⟨(some 27), .bin .gtr .none (.t 21) (.t 26), (some (20, false)), []⟩,
   S 28 (.pick (.t 20) (xB true) (.t 27))])
 (.cond (.t 28)
  (.seq (.ops [S 5 (.mv (xB false))])
  (.ret))
  (.skip)))
 (.seq (.ops [S 29 (.mv (.t 0)),
   S 30 (.nz (.t 29)),
   S 31 (.fld 8 (.t 30)),
   S 32 (.ld false 1 (.t 31)),
   S 33 (.ld false 1 (.t 1)),
   S 34 (.bin .add .none (.t 32) (.t 33)),
   S 35 (.nz (.t 29)),
   S 36 (.fld 8 (.t 35)),
   E (.st 1 (.t 36) (.t 34))])
 (.seq (.ops [S 37 (.mv (.t 0)),
   S 38 (.nz (.t 37)),
   S 39 (.fld 8 (.t 38)),
   S 40 (.ld false 1 (.t 39)),
   E (.st 1 (.t 2) (.t 40))])
 (.seq (.seq (.ops [S 41 (.ld false 1 (.t 2)),
   S 42 (.bin .eql .none (.t 41) (xI 0))])
 (.cond (.t 42)
  (.ops [S 43 (.ld false 1 (.t 3)),
    S 44 (.nz (.t 43)),
    S 45 (.fld 2 (.t 44)),
    S 46 (.ld false 1 (.t 45)),
    S 47 (.bin .sub .none (.t 46) (xI 1)),
    S 48 (.nz (.t 43)),
    S 49 (.fld 2 (.t 48)),
    E (.st 1 (.t 49) (.t 47))])
  (.skip)))
 (.seq (.ops [S 5 (.mv (xB true))])
 (.ret)))))),
 [.tmp 5], false, false, false⟩
/- (*sibyl/store.Store).Free -/
def d_store_Store_Free : DFn := ⟨2,
 .seq (.ops [S 2 (.box false 1 (.t 0)),
   S 3 (.box true 2 (.t 1)),
   S 4 (.mv (xB false))])
 (.seq (.ops [S 5 (.ld false 1 (.t 2)),
   S 6 (.ld true 2 (.t 3)),
   S 7 (.mkf (.func n_store_Store_Free_1) [] [(.t 2)]),
   S 8 (.call n_store_Store_with [(.t 5), (.t 6), (.t 7)]),
   S 4 (.mv (.t 8))])
 (.ret)),
 [.tmp 4], false, false, false⟩
/- internal/stringslite.IndexByte -/
def d_internal_stringslite_IndexByte : DFn := ⟨2,
 .seq (.ops [S 4 (.mv (xI 0))])
 (.seq (.ops [S 5 (.mv (.t 0)),
   S 6 (.mv (.t 1)),
   S 7 (.fnb (.t 5) (.t 6)),
   S 4 (.mv (.t 7))])
 (.ret)),
 [.tmp 4], false, false, false⟩
/- sibyl/lex.next$1 -/
def d_lex_next_1 : DFn := ⟨1,
 .seq (.ops [S 2 (.mv (xB false))])
 (.seq (.ops [S 3 (.mv (.t 0)),
   S 4 (.call n_lex_small [(.t 3)]),
   S 5 (.mv (.t 4)),
   ⟨(some 6), .mv (.t 0), (some (5, false)), []⟩,
   ⟨(some 7), .call n_lex_digit [(.t 6)], (some (5, false)), []⟩,
   S 8 (.pick (.t 5) (xB true) (.t 7)),
   S 2 (.mv (.t 8))])
 (.ret)),
 [.tmp 2], false, false, false⟩
/- sibyl/lex.small -/
def d_lex_small : DFn := ⟨1,
 .seq (.ops [S 2 (.mv (xB false))])
 (.seq (.ops [S 3 (.mv (.t 0)),
   S 4 (.bin .leq .none (.v (.p (.int .u8 97))) (.t 3)),
   S 5 (.mv (.t 4)),
   ⟨(some 6), .mv (.t 0), (some (5, true)), []⟩,
   ⟨(some 7), .bin .leq .none (.t 6) (.v (.p (.int .u8 122))), (some (5, true)), []⟩,
   S 8 (.pick (.t 5) (.t 7) (xB false)),
   S 2 (.mv (.t 8))])
 (.ret)),
 [.tmp 2], false, false, false⟩
/- sibyl/lex.digit -/
def d_lex_digit : DFn := ⟨1,
 .seq (.ops [S 2 (.mv (xB false))])
 (.seq (.ops [S 3 (.mv (.t 0)),
   S 4 (.bin .leq .none (.v (.p (.int .u8 48))) (.t 3)),
   S 5 (.mv (.t 4)),
   ⟨(some 6), .mv (.t 0), (some (5, true)), []⟩,
   ⟨(some 7), .bin .leq .none (.t 6) (.v (.p (.int .u8 57))), (some (5, true)), []⟩,
   S 8 (.pick (.t 5) (.t 7) (xB false)),
   S 2 (.mv (.t 8))])
 (.ret)),
 [.tmp 2], false, false, false⟩
/- sibyl/lex.run -/
def d_lex_run : DFn := ⟨2,
 .seq (.ops [S 4 (.mv (xI 0))])
 (.seq (.ops [S 5 (.mv (xI 0))])
 (.seq (.block 0 (.loop [0, 1, 5] (.seq (.seq (.ops [S 6 (.mv (.t 5)),
     S 7 (.mv (.t 0)),
     S 8 (.len 1 (.t 7)),
     S 9 (.bin .lss .none (.t 6) (.t 8)),
     S 10 (.mv (.t 9)),
     ⟨(some 11), .mv (.t 1), (some (10, true)), []⟩,
     ⟨(some 12), .mv (.t 0), (some (10, true)), []⟩,
     ⟨(some 13), .mv (.t 5), (some (10, true)), []⟩,
     ⟨(some 14), .ixs (.t 12) (.t 13), (some (10, true)), []⟩,
     ⟨(some 15), .callv (.t 11) [(.t 14)], (some (10, true)), []⟩,
     S 16 (.pick (.t 10) (.t 15) (xB false))])
   (.cond (.t 16)
    (.skip)
    (.exit 0)))
   (.block 1 (.ops [S 17 (.mv (.t 5)),
      S 18 (.bin .add .none (.t 17) (xI 1)),
      S 5 (.mv (.t 18))])))))
 (.seq (.ops [S 19 (.mv (.t 5)),
   S 4 (.mv (.t 19))])
 (.ret)))),
 [.tmp 4], false, false, false⟩
/- sibyl/lex.number -/
def d_lex_number : DFn := ⟨1,
 .seq (.ops [S 2 (.mv (xI 0)),
   S 3 (.mv (xB false))])
 (.seq (.ops [S 4 (.mv (xI 0))])
 (.seq (.seq (.ops [S 8 (.mv (.t 0)),
   S 9 (.byts (.t 8)),
   S 10 (.len 0 (.t 9)),
   S 11 (.mv (xI 0))])
 (.block 0 (.loop [4, 9, 10, 11] (.seq (.ops [S 12 (.bin .lss .none (.t 11) (.t 10))])
   (.seq (.cond (.t 12)
    (.skip)
    (.exit 0))
   (.seq (.block 1 (.seq (.ops [S 13 (.ixa 1 (.t 9) (.t 11)),
      S 14 (.ld false 1 (.t 13)),
      S 6 (.mv (.t 14))])
    (.seq (.ops [S 15 (.mv (.t 6)),
      S 16 (.bin .sub .none (.t 15) (.v (.p (.int .u8 48)))),
      S 17 (.conv .i64 (.t 16)),
      S 7 (.mv (.t 17))])
    (.seq (.seq (.ops [S 18 (.mv (.t 4)),
      S 19 (.mv (.t 7)),
      S 20 (.bin .sub .none (xI 9223372036854775807) (.t 19)),
      S 21 (.bin .quo .none (.t 20) (xI 10)),
      S 22 (.bin .gtr .none (.t 18) (.t 21))])
    (.cond (.t 22)
     (.seq (.ops [S 2 (.mv (xI 0)),
       S 3 (.mv (xB false))])
     (.ret))
     (.skip)))
    (.ops [S 23 (.mv (.t 4)),
      S 24 (.bin .mul .none (.t 23) (xI 10)),
      S 25 (.mv (.t 7)),
      S 26 (.bin .add .none (.t 24) (.t 25)),
      S 4 (.mv (.t 26))])))))
   (.ops [S 27 (.bin .add .none (.t 11) (xI 1)),
     S 11 (.mv (.t 27))])))))))
 (.seq (.ops [S 28 (.mv (.t 4)),
   S 2 (.mv (.t 28)),
   S 3 (.mv (xB true))])
 (.ret)))),
 [.tmp 2, .tmp 3], false, false, false⟩
/- sibyl/lex.ends -/
def d_lex_ends : DFn := ⟨2,
 .seq (.ops [S 4 (.mv (xB false))])
 (.seq (.ops [S 5 (.mv (.t 0)),
   S 6 (.bin .eql .none (.t 5) (.v (.p (.str (bs []))))),
   S 7 (.mv (.t 6)),
   ⟨(some 8), .mv (.t 1), (some (7, false)), []⟩,
   ⟨(some 9), .mv (.t 0), (some (7, false)), []⟩,
   ⟨(some 10), .ixs (.t 9) (xI 0), (some (7, false)), []⟩,
   ⟨(some 11), .callv (.t 8) [(.t 10)], (some (7, false)), []⟩,
   ⟨(some 12), .un .not (.t 11), (some (7, false)), []⟩,
   S 13 (.pick (.t 7) (xB true) (.t 12)),
   S 4 (.mv (.t 13))])
 (.ret)),
 [.tmp 4], false, false, false⟩
/- sibyl/lex.letter -/
def d_lex_letter : DFn := ⟨1,
 .seq (.ops [S 2 (.mv (xB false))])
 (.seq (.ops [S 3 (.mv (.t 0)),
   S 4 (.call n_lex_small [(.t 3)]),
   S 5 (.mv (.t 4)),
   ⟨(some 6), .mv (.t 0), (some (5, false)), []⟩,
   ⟨(some 7), .bin .leq .none (.v (.p (.int .u8 65))) (.t 6), (some (5, false)), []⟩,
   ⟨(some 8), .mv (.t 7), (some (5, false)), []⟩,
   ⟨(some 9), .mv (.t 0), (some (8, true)), []⟩,
   ⟨(some 10), .bin .leq .none (.t 9) (.v (.p (.int .u8 90))), (some (8, true)), []⟩,
   ⟨(some 11), .pick (.t 8) (.t 10) (xB false), (some (5, false)), []⟩,
   S 12 (.pick (.t 5) (xB true) (.t 11)),
   S 2 (.mv (.t 12))])
 (.ret)),
 [.tmp 2], false, false, false⟩
/- sibyl/lex.sign -/
def d_lex_sign : DFn := ⟨1,
 .seq (.ops [S 2 (.mv (.v (.p (.str (bs [])))))])
 (.seq (.seq (.ops [S 3 (.mv (.t 0)),
   S 4 (.len 1 (.t 3)),
   S 5 (.bin .gtr .none (.t 4) (xI 1)),
   S 6 (.mv (.t 5)),
   ⟨(some 7), .mv (.t 0), (some (6, true)), []⟩,
   ⟨(some 8), .ixs (.t 7) (xI 1), (some (6, true)), []⟩,
   ⟨(some 9), .bin .eql .none (.t 8) (.v (.p (.int .u8 61))), (some (6, true)), []⟩,
   S 10 (.pick (.t 6) (.t 9) (xB false)),
   S 11 (.mv (.t 10)),
   ⟨(some 12), .mv (.t 0), (some (11, true)), []⟩,
   ⟨(some 13), .ixs (.t 12) (xI 0), (some (11, true)), []⟩,
   ⟨(some 14), .call n_strings_IndexByte [(.v (.p (.str (bs [33, 60, 62])))), (.t 13)], (some (11, true)), []⟩,
   ⟨(some 15), .bin .geq .none (.t 14) (xI 0), (some (11, true)), []⟩,
   S 16 (.pick (.t 11) (.t 15) (xB false))])
 (.cond (.t 16)
  (.seq (.ops [S 17 (.mv (.t 0)),
    S 18 (.sls (.t 17) none (some (xI 2))),
    S 2 (.mv (.t 18))])
  (.ret))
  (.skip)))
 (.seq (.seq (.ops [S 19 (.mv (.t 0)),
   S 20 (.ixs (.t 19) (xI 0)),
   S 21 (.call n_strings_IndexByte [(.v (.p (.str (bs [44, 43, 45, 42, 47, 37, 61, 60, 62, 46, 35, 33, 40, 41])))), (.t 20)]),
   S 22 (.bin .geq .none (.t 21) (xI 0))])
 (.cond (.t 22)
  (.seq (.ops [S 23 (.mv (.t 0)),
    S 24 (.sls (.t 23) none (some (xI 1))),
    S 2 (.mv (.t 24))])
  (.ret))
  (.skip)))
 (.seq (.ops [S 2 (.mv (.v (.p (.str (bs [])))))])
 (.ret)))),
 [.tmp 2], false, false, false⟩
/- slices.IndexFunc[[]string,string] -/
def d_slices_IndexFunc_141 : DFn := ⟨2,
 .seq (.ops [S 4 (.mv (xI 0))])
 (.seq (.seq (.ops [S 6 (.mv (.t 0)),
   S 7 (.len 0 (.t 6)),
   S 8 (.mv (xI 0))])
 (.block 0 (.loop [0, 1, 7, 8] (.seq (.ops [S 9 (.bin .lss .none (.t 8) (.t 7))])
   (.seq (.cond (.t 9)
    (.skip)
    (.exit 0))
   (.seq (.block 1 (.seq (.ops [S 10 (.mv (.t 8)),
      S 5 (.mv (.t 10))])
    (.seq (.ops [S 11 (.mv (.t 1)),
      S 12 (.mv (.t 0)),
      S 13 (.mv (.t 5)),
      S 14 (.ixa 1 (.t 12) (.t 13)),
      S 15 (.ld false 1 (.t 14)),
      S 16 (.callv (.t 11) [(.t 15)])])
    (.cond (.t 16)
     (.seq (.ops [S 17 (.mv (.t 5)),
       S 4 (.mv (.t 17))])
     (.ret))
     (.skip)))))
   (.ops [S 18 (.bin .add .none (.t 8) (xI 1)),
     S 8 (.mv (.t 18))])))))))
 (.seq (.ops [S 4 (.mv (xI (-1)))])
 (.ret))),
 [.tmp 4], false, false, false⟩
/- sibyl/sibylref02.blank -/
def d_rblank : DFn := ⟨1,
 .seq (.ops [S 2 (.mv (xB false))])
 (.seq (.ops [S 3 (.mv (.t 0)),
   S 4 (.bin .eql .none (.t 3) (.v (.p (.int .u8 32)))),
   S 5 (.mv (.t 4)),
   ⟨(some 6), .mv (.t 0), (some (5, false)), []⟩,
   ⟨(some 7), .bin .eql .none (.t 6) (.v (.p (.int .u8 9))), (some (5, false)), []⟩,
   S 8 (.pick (.t 5) (xB true) (.t 7)),
   S 9 (.mv (.t 8)),
   ⟨(some 10), .mv (.t 0), (some (9, false)), []⟩,
   ⟨(some 11), .bin .eql .none (.t 10) (.v (.p (.int .u8 10))), (some (9, false)), []⟩,
   S 12 (.pick (.t 9) (xB true) (.t 11)),
   S 2 (.mv (.t 12))])
 (.ret)),
 [.tmp 2], false, true, false⟩
/- sibyl/sibylref02.Next -/
def d_rNext : DFn := ⟨2,
 .seq (.ops [S 4 (.new true [(eI 0), (eI 0), (.p (.str (bs []))), (eI 0)])])
 (.seq (.ops [S 14 (.mv (.t 0)),
   S 15 (.mv (.t 1)),
   S 16 (.ixs (.t 14) (.t 15)),
   S 5 (.mv (.t 16))])
 (.seq (.ops [S 17 (.mv (.t 5)),
   S 18 (.call n_rsmall [(.t 17)]),
   S 6 (.mv (.t 18))])
 (.seq (.seq (.ops [S 19 (.mv (.t 6))])
 (.cond (.t 19)
  (.seq (.ops [S 20 (.mv (.t 0)),
    S 21 (.mv (.t 1)),
    S 22 (.call n_rgoes [(.t 20), (.t 21), (xB true)]),
    S 7 (.mv (.t 22))])
  (.seq (.ops [S 23 (.mv (.t 1)),
    S 24 (.mv (.t 0)),
    S 25 (.mv (.t 1)),
    S 26 (.mv (.t 1)),
    S 27 (.mv (.t 7)),
    S 28 (.bin .add .none (.t 26) (.t 27)),
    S 29 (.sls (.t 24) (some (.t 25)) (some (.t 28))),
    S 30 (.build [(eI 0), (eI 0), (.p (.str (bs []))), (eI 0)] [(0, 1, (xI 1)), (1, 1, (.t 23)), (2, 1, (.t 29))]),
    E (.st 4 (.t 4) (.t 30))])
  (.ret)))
  (.skip)))
 (.seq (.ops [S 31 (.mv (.t 5)),
   S 32 (.call n_rdigit [(.t 31)]),
   S 8 (.mv (.t 32))])
 (.seq (.seq (.ops [S 33 (.mv (.t 8))])
 (.cond (.t 33)
  (.seq (.ops [S 34 (.mv (.t 0)),
    S 35 (.mv (.t 1)),
    S 36 (.call n_rgoes [(.t 34), (.t 35), (xB false)]),
    S 9 (.mv (.t 36))])
  (.seq (.ops [S 37 (.mv (.t 0)),
    S 38 (.mv (.t 1)),
    S 39 (.mv (.t 1)),
    S 40 (.mv (.t 9)),
    S 41 (.bin .add .none (.t 39) (.t 40)),
    S 42 (.sls (.t 37) (some (.t 38)) (some (.t 41))),
    S 43 (.call n_rnumber [(.t 42)]),
    S 10 (.new true [(eI 0), (eB false)]),
    E (.st 2 (.t 10) (.t 43))])
  (.seq (.ops [S 44 (.mv (.t 0)),
    S 45 (.mv (.t 1)),
    S 46 (.mv (.t 9)),
    S 47 (.bin .add .none (.t 45) (.t 46)),
    S 48 (.call n_rletter [(.t 44), (.t 47)]),
    S 11 (.mv (.t 48))])
  (.seq (.seq (.ops [S 49 (.fld 1 (.t 10)),
    S 50 (.ld false 1 (.t 49)),
    S 51 (.un .not (.t 50)),
    S 52 (.mv (.t 51)),
    ⟨(some 53), .mv (.t 11), (some (52, false)), []⟩,
    S 54 (.pick (.t 52) (xB true) (.t 53))])
  (.cond (.t 54)
   (.seq (.ops [S 55 (.build [(eI 0), (eI 0), (.p (.str (bs []))), (eI 0)] []),
     E (.st 4 (.t 4) (.t 55))])
   (.ret))
   (.skip)))
  (.seq (.ops [S 56 (.mv (.t 1)),
    S 57 (.mv (.t 0)),
    S 58 (.mv (.t 1)),
    S 59 (.mv (.t 1)),
    S 60 (.mv (.t 9)),
    S 61 (.bin .add .none (.t 59) (.t 60)),
    S 62 (.sls (.t 57) (some (.t 58)) (some (.t 61))),
    S 63 (.fld 0 (.t 10)),
    S 64 (.ld false 1 (.t 63)),
    S 65 (.build [(eI 0), (eI 0), (.p (.str (bs []))), (eI 0)] [(0, 1, (xI 3)), (1, 1, (.t 56)), (2, 1, (.t 62)), (3, 1, (.t 64))]),
    E (.st 4 (.t 4) (.t 65))])
  (.ret))))))
  (.skip)))
 (.seq (.seq (.ops [S 66 (.mv (.t 5)),
   S 67 (.bin .geq .none (.t 66) (.v (.p (.int .u8 65)))),
   S 68 (.mv (.t 67)),
   ⟨(some 69), .mv (.t 5), (some (68, true)), []⟩,
   ⟨(some 70), .bin .leq .none (.t 69) (.v (.p (.int .u8 72))), (some (68, true)), []⟩,
   S 71 (.pick (.t 68) (.t 70) (xB false))])
 (.cond (.t 71)
  (.seq (.ops [S 72 (.mv (.t 0)),
    S 73 (.mv (.t 1)),
    S 74 (.bin .add .none (.t 73) (xI 1)),
    S 75 (.call n_rletter [(.t 72), (.t 74)]),
    S 12 (.mv (.t 75))])
  (.seq (.seq (.ops [S 76 (.mv (.t 12)),
    S 77 (.mv (.t 76)),
    ⟨(some 78), .mv (.t 0), (some (77, false)), []⟩,
    ⟨(some 79), .mv (.t 1), (some (77, false)), []⟩,
    ⟨(some 80), .bin .add .none (.t 79) (xI 1), (some (77, false)), []⟩,
    ⟨(some 81), .call n_rgoes [(.t 78), (.t 80), (xB false)], (some (77, false)), []⟩,
    ⟨(some 82), .bin .gtr .none (.t 81) (xI 0), (some (77, false)), []⟩,
    S 83 (.pick (.t 77) (xB true) (.t 82))])
  (.cond (.t 83)
   (.seq (.ops [S 84 (.build [(eI 0), (eI 0), (.p (.str (bs []))), (eI 0)] []),
     E (.st 4 (.t 4) (.t 84))])
   (.ret))
   (.skip)))
  (.seq (.ops [S 85 (.mv (.t 1)),
    S 86 (.mv (.t 0)),
    S 87 (.mv (.t 1)),
    S 88 (.mv (.t 1)),
    S 89 (.bin .add .none (.t 88) (xI 1)),
    S 90 (.sls (.t 86) (some (.t 87)) (some (.t 89))),
    S 91 (.mv (.t 5)),
    S 92 (.bin .sub .none (.t 91) (.v (.p (.int .u8 65)))),
    S 93 (.conv .i64 (.t 92)),
    S 94 (.build [(eI 0), (eI 0), (.p (.str (bs []))), (eI 0)] [(0, 1, (xI 2)), (1, 1, (.t 85)), (2, 1, (.t 90)), (3, 1, (.t 93))]),
    E (.st 4 (.t 4) (.t 94))])
  (.ret))))
  (.skip)))
 (.seq (.ops [S 95 (.mv (.t 0)),
   S 96 (.mv (.t 1)),
   S 97 (.call n_rsign [(.t 95), (.t 96)]),
   S 13 (.mv (.t 97))])
 (.seq (.seq (.ops [S 98 (.mv (.t 13)),
   S 99 (.bin .eql .none (.t 98) (xI 0))])
 (.cond (.t 99)
  (.seq (.ops [S 100 (.build [(eI 0), (eI 0), (.p (.str (bs []))), (eI 0)] []),
    E (.st 4 (.t 4) (.t 100))])
  (.ret))
  (.skip)))
 (.seq (.ops [S 101 (.mv (.t 1)),
   S 102 (.mv (.t 0)),
   S 103 (.mv (.t 1)),
   S 104 (.mv (.t 1)),
   S 105 (.mv (.t 13)),
   S 106 (.bin .add .none (.t 104) (.t 105)),
   S 107 (.sls (.t 102) (some (.t 103)) (some (.t 106))),
   S 108 (.build [(eI 0), (eI 0), (.p (.str (bs []))), (eI 0)] [(0, 1, (xI 4)), (1, 1, (.t 101)), (2, 1, (.t 107))]),
   E (.st 4 (.t 4) (.t 108))])
 (.ret)))))))))),
 [.cell 4 true 4], false, true, false⟩
/- (*sibyl/store.Store).Free$1 -/
def d_store_Store_Free_1 : DFn := ⟨2,
 .seq (.ops [S 3 (.mv (xB false))])
 (.seq (.seq (.ops [S 4 (.mv (.t 0)),
   S 5 (.nz (.t 4)),
   S 6 (.fld 8 (.t 5)),
   S 7 (.ld false 1 (.t 6)),
   S 8 (.bin .gtr .none (.t 7) (xI 0))])
 (.cond (.t 8)
  (.seq (.ops [S 3 (.mv (xB false))])
  (.ret))
  (.skip)))
 (.seq (.ops [S 9 (.mv (.t 0)),
   S 10 (.mv (.t 0)),
   S 11 (.nz (.t 10)),
   S 12 (.fld 0 (.t 11)),
   S 13 (.ld false 1 (.t 12)),
   S 14 (.bin .add .none (.t 13) (xI 1)),
   S 15 (.build [(eI 0), (eB false), (eI 0), (eI 0), (eI 0), (eI 0), (eI 0), (eI 0), (eI 0)] [(0, 1, (.t 14))]),
   S 16 (.nz (.t 9)),
   E (.st 9 (.t 16) (.t 15))])
 (.seq (.ops [S 17 (.ld false 1 (.t 1)),
   S 18 (.nz (.t 17)),
   S 19 (.fld 1 (.t 18)),
   S 20 (.ld false 1 (.t 19)),
   S 21 (.bin .sub .none (.t 20) (xI 1)),
   S 22 (.nz (.t 17)),
   S 23 (.fld 1 (.t 22)),
   E (.st 1 (.t 23) (.t 21))])
 (.seq (.ops [S 3 (.mv (xB true))])
 (.ret))))),
 [.tmp 3], false, false, false⟩
/- sibyl/sibylref02.small -/
def d_rsmall : DFn := ⟨1,
 .seq (.ops [S 2 (.mv (xB false))])
 (.seq (.ops [S 3 (.mv (.t 0)),
   S 4 (.bin .geq .none (.t 3) (.v (.p (.int .u8 97)))),
   S 5 (.mv (.t 4)),
   ⟨(some 6), .mv (.t 0), (some (5, true)), []⟩,
   ⟨(some 7), .bin .leq .none (.t 6) (.v (.p (.int .u8 122))), (some (5, true)), []⟩,
   S 8 (.pick (.t 5) (.t 7) (xB false)),
   S 2 (.mv (.t 8))])
 (.ret)),
 [.tmp 2], false, true, false⟩
/- sibyl/sibylref02.goes -/
def d_rgoes : DFn := ⟨3,
 .seq (.ops [S 6 (.mv (xI 0))])
 (.seq (.ops [S 7 (.mv (xI 0))])
 (.seq (.block 0 (.loop [0, 1, 2, 7] (.seq (.seq (.ops [S 10 (.mv (.t 1)),
     S 11 (.mv (.t 7)),
     S 12 (.bin .add .none (.t 10) (.t 11)),
     S 13 (.mv (.t 0)),
     S 14 (.len 1 (.t 13)),
     S 15 (.bin .lss .none (.t 12) (.t 14))])
   (.cond (.t 15)
    (.skip)
    (.exit 0)))
   (.block 1 (.seq (.ops [S 16 (.mv (.t 0)),
      S 17 (.mv (.t 1)),
      S 18 (.mv (.t 7)),
      S 19 (.bin .add .none (.t 17) (.t 18)),
      S 20 (.ixs (.t 16) (.t 19)),
      S 21 (.call n_rdigit [(.t 20)]),
      S 8 (.mv (.t 21))])
    (.seq (.ops [S 22 (.mv (.t 0)),
      S 23 (.mv (.t 1)),
      S 24 (.mv (.t 7)),
      S 25 (.bin .add .none (.t 23) (.t 24)),
      S 26 (.ixs (.t 22) (.t 25)),
      S 27 (.call n_rsmall [(.t 26)]),
      S 9 (.mv (.t 27))])
    (.seq (.seq (.ops [S 28 (.mv (.t 8)),
      S 29 (.un .not (.t 28)),
      S 30 (.mv (.t 29)),
      ⟨(some 31), .mv (.t 2), (some (30, true)), []⟩,
      ⟨(some 32), .un .not (.t 31), (some (30, true)), []⟩,
      ⟨(some 33), .mv (.t 32), (some (30, true)), []⟩,
      ⟨(some 34), .mv (.t 9), (some (33, false)), []⟩,
      ⟨(some 35), .un .not (.t 34), (some (33, false)), []⟩,
      ⟨(some 36), .pick (.t 33) (xB true) (.t 35), (some (30, true)), []⟩,
      S 37 (.pick (.t 30) (.t 36) (xB false))])
    (.cond (.t 37)
     (.exit 0)
     (.skip)))
    (.ops [S 38 (.mv (.t 7)),
      S 39 (.bin .add .none (.t 38) (xI 1)),
      S 7 (.mv (.t 39))]))))))))
 (.seq (.ops [S 40 (.mv (.t 7)),
   S 6 (.mv (.t 40))])
 (.ret)))),
 [.tmp 6], false, true, false⟩
/- sibyl/sibylref02.digit -/
def d_rdigit : DFn := ⟨1,
 .seq (.ops [S 2 (.mv (xB false))])
 (.seq (.ops [S 3 (.mv (.t 0)),
   S 4 (.bin .geq .none (.t 3) (.v (.p (.int .u8 48)))),
   S 5 (.mv (.t 4)),
   ⟨(some 6), .mv (.t 0), (some (5, true)), []⟩,
   ⟨(some 7), .bin .leq .none (.t 6) (.v (.p (.int .u8 57))), (some (5, true)), []⟩,
   S 8 (.pick (.t 5) (.t 7) (xB false)),
   S 2 (.mv (.t 8))])
 (.ret)),
 [.tmp 2], false, true, false⟩
/- sibyl/sibylref02.number -/
def d_rnumber : DFn := ⟨1,
 .seq (.ops [S 2 (.new true [(eI 0), (eB false)])])
 (.seq (.ops [S 3 (.mv (xI 0))])
 (.seq (.seq (.ops [S 4 (.mv (xI 0))])
 (.block 0 (.loop [0, 2, 3, 4] (.seq (.seq (.ops [S 6 (.mv (.t 4)),
     S 7 (.mv (.t 0)),
     S 8 (.len 1 (.t 7)),
     S 9 (.bin .lss .none (.t 6) (.t 8))])
   (.cond (.t 9)
    (.skip)
    (.exit 0)))
   (.seq (.block 1 (.seq (.ops [S 12 (.mv (.t 0)),
      S 13 (.mv (.t 4)),
      S 14 (.ixs (.t 12) (.t 13)),
      S 15 (.bin .sub .none (.t 14) (.v (.p (.int .u8 48)))),
      S 16 (.conv .i64 (.t 15)),
      S 5 (.mv (.t 16))])
    (.seq (.seq (.ops [S 17 (.mv (.t 3)),
      S 18 (.mv (.t 5)),
      S 19 (.bin .sub .none (xI 9223372036854775807) (.t 18)),
      S 20 (.bin .quo .none (.t 19) (xI 10)),
      S 21 (.bin .gtr .none (.t 17) (.t 20))])
    (.cond (.t 21)
     (.seq (.ops [S 22 (.build [(eI 0), (eB false)] []),
       E (.st 2 (.t 2) (.t 22))])
     (.ret))
     (.skip)))
    (.ops [S 23 (.mv (.t 3)),
      S 24 (.bin .mul .none (.t 23) (xI 10)),
      S 25 (.mv (.t 5)),
      S 26 (.bin .add .none (.t 24) (.t 25)),
      S 3 (.mv (.t 26))]))))
   (.ops [S 10 (.mv (.t 4)),
     S 11 (.bin .add .none (.t 10) (xI 1)),
     S 4 (.mv (.t 11))]))))))
 (.seq (.ops [S 27 (.mv (.t 3)),
   S 28 (.build [(eI 0), (eB false)] [(0, 1, (.t 27)), (1, 1, (xB true))]),
   E (.st 2 (.t 2) (.t 28))])
 (.ret)))),
 [.cell 2 true 2], false, true, false⟩
/- sibyl/sibylref02.letter -/
def d_rletter : DFn := ⟨2,
 .seq (.ops [S 4 (.mv (xB false))])
 (.seq (.seq (.ops [S 7 (.mv (.t 1)),
   S 8 (.mv (.t 0)),
   S 9 (.len 1 (.t 8)),
   S 10 (.bin .geq .none (.t 7) (.t 9))])
 (.cond (.t 10)
  (.seq (.ops [S 4 (.mv (xB false))])
  (.ret))
  (.skip)))
 (.seq (.ops [S 11 (.mv (.t 0)),
   S 12 (.mv (.t 1)),
   S 13 (.ixs (.t 11) (.t 12)),
   S 14 (.call n_rsmall [(.t 13)]),
   S 5 (.mv (.t 14))])
 (.seq (.ops [S 15 (.mv (.t 0)),
   S 16 (.mv (.t 1)),
   S 17 (.ixs (.t 15) (.t 16)),
   S 18 (.call n_rcapital [(.t 17)]),
   S 6 (.mv (.t 18))])
 (.seq (.ops [S 19 (.mv (.t 5)),
   S 20 (.mv (.t 19)),
   ⟨(some 21), .mv (.t 6), (some (20, false)), []⟩,
   S 22 (.pick (.t 20) (xB true) (.t 21)),
   S 4 (.mv (.t 22))])
 (.ret))))),
 [.tmp 4], false, true, false⟩
/- sibyl/sibylref02.sign -/
def d_rsign : DFn := ⟨2,
 .seq (.ops [S 4 (.mv (xI 0))])
 (.seq (.seq (.ops [S 7 (.mv (.t 1)),
   S 8 (.bin .add .none (.t 7) (xI 1)),
   S 9 (.mv (.t 0)),
   S 10 (.len 1 (.t 9)),
   S 11 (.bin .lss .none (.t 8) (.t 10)),
   S 12 (.mv (.t 11)),
   ⟨(some 13), .mv (.t 0), (some (12, true)), []⟩,
   ⟨(some 14), .mv (.t 1), (some (12, true)), []⟩,
   ⟨(some 15), .bin .add .none (.t 14) (xI 1), (some (12, true)), []⟩,
   ⟨(some 16), .ixs (.t 13) (.t 15), (some (12, true)), []⟩,
   ⟨(some 17), .bin .eql .none (.t 16) (.v (.p (.int .u8 61))), (some (12, true)), []⟩,
   S 18 (.pick (.t 12) (.t 17) (xB false)),
   S 19 (.mv (.t 18)),
   ⟨(some 20), .mv (.t 0), (some (19, true)), []⟩,
   ⟨(some 21), .mv (.t 1), (some (19, true)), []⟩,
   ⟨(some 22), .ixs (.t 20) (.t 21), (some (19, true)), []⟩,
   ⟨(some 23), .bin .eql .none (.t 22) (.v (.p (.int .u8 33))), (some (19, true)), []⟩,
   ⟨(some 24), .mv (.t 23), (some (19, true)), []⟩,
   ⟨(some 25), .mv (.t 0), (some (24, false)), []⟩,
   ⟨(some 26), .mv (.t 1), (some (24, false)), []⟩,
   ⟨(some 27), .ixs (.t 25) (.t 26), (some (24, false)), []⟩,
   ⟨(some 28), .bin .eql .none (.t 27) (.v (.p (.int .u8 60))), (some (24, false)), []⟩,
   ⟨(some 29), .pick (.t 24) (xB true) (.t 28), (some (19, true)), []⟩,
   ⟨(some 30), .mv (.t 29), (some (19, true)), []⟩,
   ⟨(some 31), .mv (.t 0), (some (30, false)), []⟩,
   ⟨(some 32), .mv (.t 1), (some (30, false)), []⟩,
   ⟨(some 33), .ixs (.t 31) (.t 32), (some (30, false)), []⟩,
   ⟨(some 34), .bin .eql .none (.t 33) (.v (.p (.int .u8 62))), (some (30, false)), []⟩,
   ⟨(some 35), .pick (.t 30) (xB true) (.t 34), (some (19, true)), []⟩,
   S 36 (.pick (.t 19) (.t 35) (xB false))])
 (.cond (.t 36)
  (.seq (.ops [S 4 (.mv (xI 2))])
  (.ret))
  (.skip)))
 (.seq (.ops [S 5 (.mv (.v (.p (.str (bs [44, 43, 45, 42, 47, 37, 61, 60, 62, 46, 35, 33, 40, 41])))))])
 (.seq (.seq (.ops [S 6 (.mv (xI 0))])
 (.block 0 (.loop [0, 1, 5, 6] (.seq (.seq (.ops [S 37 (.mv (.t 6)),
     S 38 (.mv (.t 5)),
     S 39 (.len 1 (.t 38)),
     S 40 (.bin .lss .none (.t 37) (.t 39))])
   (.cond (.t 40)
    (.skip)
    (.exit 0)))
   (.seq (.block 1 (.seq (.ops [S 43 (.mv (.t 5)),
      S 44 (.mv (.t 6)),
      S 45 (.ixs (.t 43) (.t 44)),
      S 46 (.mv (.t 0)),
      S 47 (.mv (.t 1)),
      S 48 (.ixs (.t 46) (.t 47)),
      S 49 (.bin .eql .none (.t 45) (.t 48))])
    (.cond (.t 49)
     (.seq (.ops [S 4 (.mv (xI 1))])
     (.ret))
     (.skip))))
   (.ops [S 41 (.mv (.t 6)),
     S 42 (.bin .add .none (.t 41) (xI 1)),
     S 6 (.mv (.t 42))]))))))
 (.seq (.ops [S 4 (.mv (xI 0))])
 (.ret))))),
 [.tmp 4], false, true, false⟩
/- sibyl/sibylref02.capital -/
def d_rcapital : DFn := ⟨1,
 .seq (.ops [S 2 (.mv (xB false))])
 (.seq (.ops [S 3 (.mv (.t 0)),
   S 4 (.bin .geq .none (.t 3) (.v (.p (.int .u8 65)))),
   S 5 (.mv (.t 4)),
   ⟨(some 6), .mv (.t 0), (some (5, true)), []⟩,
   ⟨(some 7), .bin .leq .none (.t 6) (.v (.p (.int .u8 90))), (some (5, true)), []⟩,
   S 8 (.pick (.t 5) (.t 7) (xB false)),
   S 2 (.mv (.t 8))])
 (.ret)),
 [.tmp 2], false, true, false⟩
/- sibyl/query.Parse$1 -/
def d_Parse1_e : DFn := ⟨4,
 .seq (.ops [⟨(some 3), .mv (.v (.tup [])), none, [(3, .mv (.v (.p (.agg []))), none)]⟩])
 (.seq (.ops [S 6 (.mv (.v .nili)),
   S 7 (.asr 161 (.agg [(eI 0), (eI 0)]) (.t 6)),
   S 5 (.mv (.t 7)),
   S 8 (.ext (.t 5) 0),
   S 9 (.ext (.t 5) 1),
   S 3 (.new true [(eI 0), (eI 0)]),
   E (.st 2 (.t 3) (.t 8)),
   S 4 (.mv (.t 9))])
 (.seq (.ops [S 10 (.mv (.t 4))])
 (.cond (.t 10)
  (.ops [S 11 (.build [(.full []), (.full []), (eI 0), (eB false)] []),
    S 12 (.fld 0 (.t 3)),
    S 13 (.ld false 1 (.t 12)),
    S 14 (.fld 1 (.t 3)),
    S 15 (.ld false 1 (.t 14)),
    ⟨none, .st 4 (.t 0) (.t 11), none, [(15, .ld false 1 (.t 14), none), (13, .ld false 1 (.t 12), none)]⟩,
    ⟨none, .st 1 (.t 1) (.t 13), none, [(15, .ld false 1 (.t 14), none)]⟩,
    E (.st 1 (.t 2) (.t 15))])
  (.skip)))),
 [], false, false, false⟩
/- sibyl/query.Parse$1 -/
def d_Parse1_p : DFn := ⟨5,
 .seq (.ops [⟨(some 4), .mv (.v (.tup [])), none, [(4, .mv (.v (.p (.agg [(.bool false)]))), none)]⟩])
 (.seq (.ops [S 6 (.mv (.t 3)),
   S 3 (.mv (.v (.tup [])))])
 (.seq (.ops [S 7 (.asr 161 (.agg [(eI 0), (eI 0)]) (.t 6)),
   S 5 (.mv (.t 7)),
   S 8 (.ext (.t 5) 0),
   S 9 (.ext (.t 5) 1),
   S 3 (.new true [(eI 0), (eI 0)]),
   E (.st 2 (.t 3) (.t 8)),
   S 4 (.mv (.t 9))])
 (.seq (.ops [S 10 (.mv (.t 4))])
 (.cond (.t 10)
  (.ops [S 11 (.build [(.full []), (.full []), (eI 0), (eB false)] []),
    S 12 (.fld 0 (.t 3)),
    S 13 (.ld false 1 (.t 12)),
    S 14 (.fld 1 (.t 3)),
    S 15 (.ld false 1 (.t 14)),
    ⟨none, .st 4 (.t 0) (.t 11), none, [(15, .ld false 1 (.t 14), none), (13, .ld false 1 (.t 12), none)]⟩,
    ⟨none, .st 1 (.t 1) (.t 13), none, [(15, .ld false 1 (.t 14), none)]⟩,
    E (.st 1 (.t 2) (.t 15))])
  (.skip))))),
 [], false, false, false⟩

def progList : List (Nat × DFn) := [(n_ClientNil, d_ClientNil), (n_sibyllaw20_awake, d_sibyllaw20_awake), (n_client_New, d_client_New), (n_call, d_call), (n_client_Client_Step, d_client_Client_Step), (n_client_Client_Done, d_client_Client_Done), (n_client_Client_Answer, d_client_Client_Answer), (n_client_Client_Stamp, d_client_Client_Stamp), (n_log_New, d_log_New), (n_sibyllaw20_rest, d_sibyllaw20_rest), (n_log_Log_Tail, d_log_Log_Tail), (n_log_Log_Store, d_log_Log_Store), (n_store_Store_Used, d_store_Store_Used), (n_log_Log_Take, d_log_Log_Take), (n_log_Log_Fill, d_log_Log_Fill), (n_log_Log_Post, d_log_Log_Post), (n_log_Log_Reply, d_log_Log_Reply), (n_log_Log_Low, d_log_Log_Low), (n_client_Client_look, d_client_Client_look), (n_client_Read, d_client_Read), (n_client_Client_end, d_client_Client_end), (n_rPrint, d_rPrint), (n_Made, d_Made), (n_Events, d_Events), (n_log_Right, d_log_Right), (n_store_New, d_store_New), (n_epoch_New, d_epoch_New), (n_ring_New, d_ring_New), (n_ring_New_34, d_ring_New_34), (n_ring_Ring_Put, d_ring_Ring_Put), (n_log_Log_Cursor, d_log_Log_Cursor), (n_log_Log_Look, d_log_Log_Look), (n_ring_Ring_Put_38, d_ring_Ring_Put_38), (n_log_Log_Collect, d_log_Log_Collect), (n_ring_Ring_Drop, d_ring_Ring_Drop), (n_ring_Ring_Drop_41, d_ring_Ring_Drop_41), (n_ring_Ring_Low, d_ring_Ring_Low), (n_log_Log_Config, d_log_Log_Config), (n_client_Client_room, d_client_Client_room), (n_query_Parse, d_query_Parse), (n_Printable, d_Printable), (n_Text, d_Text), (n_digits, d_digits), (n_Next, d_Next), (n_Codes, d_Codes), (n_ring_Ring_at, d_ring_Ring_at), (n_ring_Ring_Get, d_ring_Ring_Get), (n_ring_Ring_at_54, d_ring_Ring_at_54), (n_log_Log_Collect_1, d_log_Log_Collect_1), (n_slices_ContainsFunc, d_slices_ContainsFunc), (n_ring_Ring_Get_57, d_ring_Ring_Get_57), (n_ring_Ring_Low_58, d_ring_Ring_Low_58), (n_client_Client_slot, d_client_Client_slot), (n_client_Client_take, d_client_Client_take), (n_lex_Lex, d_lex_Lex), (n_query_parser_query, d_query_parser_query), (n_rName, d_rName), (n_rSound, d_rSound), (n_rtakes, d_rtakes), (n_held, d_held), (n_slices_IndexFunc, d_slices_IndexFunc), (n_store_Store_Take, d_store_Store_Take), (n_client_Client_fill, d_client_Client_fill), (n_client_Client_drop, d_client_Client_drop), (n_lex_skip, d_lex_skip), (n_lex_Each, d_lex_Each), (n_query_parser_must, d_query_parser_must), (n_query_parser_may, d_query_parser_may), (n_query_parser_elem, d_query_parser_elem), (n_query_parser_cond, d_query_parser_cond), (n_query_parser_kind, d_query_parser_kind), (n_rLex, d_rLex), (n_rkeyword, d_rkeyword), (n_client_Client_wait, d_client_Client_wait), (n_store_Store_Add, d_store_Store_Add), (n_client_Client_free, d_client_Client_free), (n_strings_IndexByte, d_strings_IndexByte), (n_lex_Each_1, d_lex_Each_1), (n_lex_next, d_lex_next), (n_query_parser_at, d_query_parser_at), (n_query_parser_is, d_query_parser_is), (n_query_parser_pick, d_query_parser_pick), (n_query_row_now, d_query_row_now), (n_rEach, d_rEach), (n_log_Log_Answer, d_log_Log_Answer), (n_store_Store_with, d_store_Store_with), (n_store_Store_Add_1, d_store_Store_Add_1), (n_store_Store_Free, d_store_Store_Free), (n_internal_stringslite_IndexByte, d_internal_stringslite_IndexByte), (n_lex_next_1, d_lex_next_1), (n_lex_small, d_lex_small), (n_lex_digit, d_lex_digit), (n_lex_run, d_lex_run), (n_lex_number, d_lex_number), (n_lex_ends, d_lex_ends), (n_lex_letter, d_lex_letter), (n_lex_sign, d_lex_sign), (n_slices_IndexFunc_141, d_slices_IndexFunc_141), (n_rblank, d_rblank), (n_rNext, d_rNext), (n_store_Store_Free_1, d_store_Store_Free_1), (n_rsmall, d_rsmall), (n_rgoes, d_rgoes), (n_rdigit, d_rdigit), (n_rnumber, d_rnumber), (n_rletter, d_rletter), (n_rsign, d_rsign), (n_rcapital, d_rcapital), (n_Parse1_e, d_Parse1_e), (n_Parse1_p, d_Parse1_p)]
end Dk.C
