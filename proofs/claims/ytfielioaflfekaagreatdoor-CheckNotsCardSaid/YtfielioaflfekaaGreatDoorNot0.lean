/- A condition that names an element that is Not: all cases run by the kernel. -/
import Derived.Test.YtfielioaflfekaaGreatDoorKey2
set_option linter.unusedVariables false
set_option linter.unusedSimpArgs false
set_option linter.unusedSectionVars false
namespace Dk.K
open Go Dk
variable [Mx]
omit [Mx] in
def ckRest : DC := .seq (.ops [S 39 (.build [(.full []), (.full []), (eI 0), (eB false)] [(2, 1, (xI 5))]),
   S 11 (.new true [(.full []), (.full []), (eI 0), (eB false)]),
   E (.st 4 (.t 11) (.t 39))])
 (.seq (.seq (.ops [S 12 (.mv (xI 0))])
 (.block 0 (.loop [7, 8, 9, 10, 11, 12] (.seq (.seq (.ops [S 40 (.mv (.t 12)),
     S 41 (.mv (.t 8)),
     S 42 (.bin .lss .none (.t 40) (.t 41))])
   (.cond (.t 42)
    (.skip)
    (.exit 0)))
   (.seq (.block 1 (.ops [S 45 (.fld 0 (.t 11)),
      S 46 (.ld false 1 (.t 45)),
      S 47 (.mv (.t 12)),
      S 48 (.mv (.t 12)),
      S 49 (.mv (.t 12)),
      S 50 (.bin .add .none (.t 49) (xI 1)),
      S 51 (.sls (.v (.p (.str (bs [97, 98, 99, 100, 101, 102])))) (some (.t 48)) (some (.t 50))),
      S 52 (.mv (.t 12)),
      S 53 (.mv (.t 9)),
      S 54 (.bin .eql .none (.t 52) (.t 53)),
      S 55 (.build [(eI 0), (.p (.str (bs []))), (eB false), (eB false)] [(0, 1, (.t 47)), (1, 1, (.t 51)), (3, 1, (.t 54))]),
      S 56 (.lit 4 true [[(eI 0), (.p (.str (bs []))), (eB false), (eB false)]] [(0, (.t 55))]),
      S 57 (.app 4 true 32 (.t 46) (.t 56)),
      S 58 (.fld 0 (.t 11)),
      E (.st 1 (.t 58) (.t 57))]))
   (.ops [S 43 (.mv (.t 12)),
     S 44 (.bin .add .none (.t 43) (xI 1)),
     S 12 (.mv (.t 44))]))))))
 (.seq (.ops [S 59 (.fld 0 (.t 11)),
   S 60 (.ld false 1 (.t 59)),
   S 61 (.mv (.t 10)),
   S 62 (.ixa 4 (.t 60) (.t 61)),
   S 63 (.fld 1 (.t 62)),
   S 64 (.ld false 1 (.t 63)),
   S 65 (.build [(eI 0), (eI 0), (.p (.str (bs []))), (eI 0), (eI 0)] [(0, 1, (xI 7)), (2, 1, (.t 64))]),
   S 66 (.lit 5 true [[(eI 0), (eI 0), (.p (.str (bs []))), (eI 0), (eI 0)]] [(0, (.t 65))]),
   S 67 (.fld 0 (.t 11)),
   S 68 (.ld false 1 (.t 67)),
   S 69 (.mv (.t 9)),
   S 70 (.ixa 4 (.t 68) (.t 69)),
   S 71 (.fld 1 (.t 70)),
   S 72 (.ld false 1 (.t 71)),
   S 73 (.build [(eI 0), (eI 0), (.p (.str (bs []))), (eI 0), (eI 0)] [(0, 1, (xI 7)), (2, 1, (.t 72))]),
   S 74 (.lit 5 true [[(eI 0), (eI 0), (.p (.str (bs []))), (eI 0), (eI 0)]] [(0, (.t 73))]),
   S 75 (.build [(eI 0), (.full []), (.full [])] [(0, 1, (xI 3)), (1, 1, (.t 66)), (2, 1, (.t 74))]),
   S 76 (.lit 3 true [[(eI 0), (.full []), (.full [])]] [(0, (.t 75))]),
   S 77 (.fld 1 (.t 11)),
   E (.st 1 (.t 77) (.t 76))])
 (.seq (.ops [S 78 (.ld true 4 (.t 11)),
   S 79 (.call n_check_Check [(.t 78)]),
   S 13 (.mv (.t 79))])
 (.seq (.seq (.ops [S 80 (.mv (.t 10)),
   S 81 (.mv (.t 9)),
   S 82 (.bin .gtr .none (.t 80) (.t 81))])
 (.cond (.t 82)
  (.seq (.ops [S 83 (.mv (.t 7)),
    S 84 (.mv (.t 83)),
    ⟨(some 85), .mv (.t 13), (some (84, true)), []⟩,
    ⟨(some 86), .bin .eql .none (.t 85) (xI 14), (some (84, true)), []⟩,
    S 87 (.pick (.t 84) (.t 86) (xB false)),
    S 88 (.mv (.t 87)),
    ⟨(some 89), .ld true 4 (.t 11), (some (88, true)), []⟩,
    ⟨(some 90), .fld 1 (.t 11), (some (88, true)), []⟩,
    ⟨(some 91), .ld false 1 (.t 90), (some (88, true)), []⟩,
    ⟨(some 92), .ixa 3 (.t 91) (xI 0), (some (88, true)), []⟩,
    ⟨(some 93), .ld true 3 (.t 92), (some (88, true)), []⟩,
    ⟨(some 94), .call n_check_Place [(.t 89), (.t 93)], (some (88, true)), []⟩,
    ⟨(some 95), .bin .eql .none (.t 94) (xI (-1)), (some (88, true)), []⟩,
    S 96 (.pick (.t 88) (.t 95) (xB false)),
    S 6 (.mv (.t 96))])
  (.ret))
  (.skip)))
 (.seq (.ops [S 97 (.ld true 4 (.t 11)),
   S 98 (.call n_check_Rules [(.t 97)]),
   S 14 (.mv (.t 98))])
 (.seq (.ops [S 99 (.mv (.t 7)),
   S 100 (.mv (.t 99)),
   ⟨(some 101), .mv (.t 13), (some (100, true)), []⟩,
   ⟨(some 102), .bin .eql .none (.t 101) (xI 0), (some (100, true)), []⟩,
   S 103 (.pick (.t 100) (.t 102) (xB false)),
   S 104 (.mv (.t 103)),
   ⟨(some 105), .ld true 4 (.t 11), (some (104, true)), []⟩,
   ⟨(some 106), .fld 1 (.t 11), (some (104, true)), []⟩,
   ⟨(some 107), .ld false 1 (.t 106), (some (104, true)), []⟩,
   ⟨(some 108), .ixa 3 (.t 107) (xI 0), (some (104, true)), []⟩,
   ⟨(some 109), .ld true 3 (.t 108), (some (104, true)), []⟩,
   ⟨(some 111), .mv (.t 9), (some (104, true)), []⟩,
   ⟨(some 110), .call n_check_Place [(.t 105), (.t 109)], (some (104, true)), []⟩,
   ⟨(some 112), .bin .eql .none (.t 110) (.t 111), (some (104, true)), []⟩,
   S 113 (.pick (.t 104) (.t 112) (xB false)),
   S 114 (.mv (.t 113)),
   ⟨(some 115), .mv (.t 14), (some (114, true)), []⟩,
   ⟨(some 116), .len 0 (.t 115), (some (114, true)), []⟩,
   ⟨(some 117), .mv (.t 8), (some (114, true)), []⟩,
   ⟨(some 118), .bin .eql .none (.t 116) (.t 117), (some (114, true)), []⟩,
   S 119 (.pick (.t 114) (.t 118) (xB false)),
   S 120 (.mv (.t 119)),
   ⟨(some 121), .mv (.t 14), (some (120, true)), []⟩,
   ⟨(some 122), .mv (.t 9), (some (120, true)), []⟩,
   ⟨(some 123), .ixa 1 (.t 121) (.t 122), (some (120, true)), []⟩,
   ⟨(some 124), .ld false 1 (.t 123), (some (120, true)), []⟩,
   ⟨(some 125), .len 0 (.t 124), (some (120, true)), []⟩,
   ⟨(some 126), .bin .eql .none (.t 125) (xI 1), (some (120, true)), []⟩,
   S 127 (.pick (.t 120) (.t 126) (xB false)),
   S 128 (.mv (.t 127)),
   ⟨(some 129), .mv (.t 14), (some (128, true)), []⟩,
   ⟨(some 130), .mv (.t 9), (some (128, true)), []⟩,
   ⟨(some 131), .ixa 1 (.t 129) (.t 130), (some (128, true)), []⟩,
   ⟨(some 132), .ld false 1 (.t 131), (some (128, true)), []⟩,
   ⟨(some 133), .ixa 3 (.t 132) (xI 0), (some (128, true)), []⟩,
   ⟨(some 134), .fld 1 (.t 133), (some (128, true)), []⟩,
   ⟨(some 135), .ld false 1 (.t 134), (some (128, true)), []⟩,
   ⟨(some 136), .ixa 5 (.t 135) (xI 0), (some (128, true)), []⟩,
   ⟨(some 137), .fld 4 (.t 136), (some (128, true)), []⟩,
   ⟨(some 138), .ld false 1 (.t 137), (some (128, true)), []⟩,
   ⟨(some 139), .mv (.t 10), (some (128, true)), []⟩,
   ⟨(some 140), .bin .eql .none (.t 138) (.t 139), (some (128, true)), []⟩,
   S 141 (.pick (.t 128) (.t 140) (xB false)),
   S 142 (.mv (.t 141)),
   ⟨(some 143), .mv (.t 14), (some (142, true)), []⟩,
   ⟨(some 144), .mv (.t 9), (some (142, true)), []⟩,
   ⟨(some 145), .ixa 1 (.t 143) (.t 144), (some (142, true)), []⟩,
   ⟨(some 146), .ld false 1 (.t 145), (some (142, true)), []⟩,
   ⟨(some 147), .ixa 3 (.t 146) (xI 0), (some (142, true)), []⟩,
   ⟨(some 148), .fld 2 (.t 147), (some (142, true)), []⟩,
   ⟨(some 149), .ld false 1 (.t 148), (some (142, true)), []⟩,
   ⟨(some 150), .ixa 5 (.t 149) (xI 0), (some (142, true)), []⟩,
   ⟨(some 151), .fld 4 (.t 150), (some (142, true)), []⟩,
   ⟨(some 152), .ld false 1 (.t 151), (some (142, true)), []⟩,
   ⟨(some 153), .mv (.t 9), (some (142, true)), []⟩,
   ⟨(some 154), .bin .eql .none (.t 152) (.t 153), (some (142, true)), []⟩,
   S 155 (.pick (.t 142) (.t 154) (xB false)),
   S 6 (.mv (.t 155))])
 (.ret)))))))
omit [Mx] in
def ckAll : DC := .seq (.ops [S 6 (.mv (xB false))])
 (.seq (.ops [S 15 (.call n_sibyllaw04_awake []),
   S 7 (.mv (.t 15))])
 (.seq (.ops [S 16 (.mv (.t 0)),
   S 17 (.bin .rem .none (.t 16) (xI 4)),
   S 18 (.bin .add .none (.t 17) (xI 4)),
   S 19 (.bin .rem .none (.t 18) (xI 4)),
   S 20 (.bin .add .none (xI 3) (.t 19)),
   S 8 (.mv (.t 20))])
 (.seq (.ops [S 21 (.mv (.t 1)),
   S 22 (.mv (.t 8)),
   S 23 (.bin .sub .none (.t 22) (xI 2)),
   S 24 (.bin .rem .none (.t 21) (.t 23)),
   S 25 (.mv (.t 8)),
   S 26 (.bin .add .none (.t 24) (.t 25)),
   S 27 (.bin .sub .none (.t 26) (xI 2)),
   S 28 (.mv (.t 8)),
   S 29 (.bin .sub .none (.t 28) (xI 2)),
   S 30 (.bin .rem .none (.t 27) (.t 29)),
   S 31 (.bin .add .none (xI 1) (.t 30)),
   S 9 (.mv (.t 31))])
 (.seq (.ops [S 32 (.mv (.t 2)),
   S 33 (.mv (.t 8)),
   S 34 (.bin .rem .none (.t 32) (.t 33)),
   S 35 (.mv (.t 8)),
   S 36 (.bin .add .none (.t 34) (.t 35)),
   S 37 (.mv (.t 8)),
   S 38 (.bin .rem .none (.t 36) (.t 37)),
   S 10 (.mv (.t 38))])
 ckRest))))
theorem smallK : smallNos listK = true := by kernel_rfl
theorem noYieldK : progOf listK yieldNo = none := by kernel_rfl
noncomputable abbrev runK (f : Nat) (args : List EV) (H : HK) : R := runC (treeOf listK) 1000 60 f args H
theorem awake_run : runK n_sibyllaw04_awake [] noneK = some (eB true, noneK) := by kernel_rfl
theorem awake_ok : C0 n_sibyllaw04_awake [] ⟨[], 0⟩ = some (eB true, ⟨[], 0⟩) := by
  obtain ⟨h', e, R⟩ := runC_ok (ext := noExt) smallK noYieldK noExt_mono awake_run noneK_rel
  rw [noneK_is R] at e
  exact over _ _ _ _ e
theorem rest_case {fr : Fr} (e : isT (finishC 1000 (callC (treeOf listK) 1000 60) [.tmp 6] [.code ckRest] fr noneK) = true) : Run C0 [.code ckRest] .normal fr ⟨[], 0⟩ (Ends [.tmp 6] fun u _ => u = eB true) :=
  Run_sub over (Run_true smallK noYieldK noExt_mono noneK_rel e)
/-- Where the law stands once its numbers are known. -/
def frm (a b c r n j k : Int) : Fr := [(10, eI k), (38, eI k), (37, eI n), (36, eI (c.tmod n + n)), (35, eI n), (34, eI (c.tmod n)), (33, eI n), (32, eI c), (9, eI (1 + j)), (31, eI (1 + j)), (30, eI j), (29, eI (n - 2)), (28, eI n), (27, eI (b.tmod (n - 2) + n - 2)), (26, eI (b.tmod (n - 2) + n)), (25, eI n), (24, eI (b.tmod (n - 2))), (23, eI (n - 2)), (22, eI n), (21, eI b), (8, eI n), (20, eI n), (19, eI r), (18, eI (a.tmod 4 + 4)), (17, eI (a.tmod 4)), (16, eI a), (7, eB true), (15, eB true), (6, eB false), (0, eI a), (1, eI b), (2, eI c)]
def Fine (n j k : Int) : Prop := ∀ a b c r : Int, isT (finishC 1000 (callC (treeOf listK) 1000 60) [.tmp 6] [.code ckRest] (frm a b c r n j k) noneK) = true
end Dk.K
