/- The document's lexer: signs, and the next token, at D. -/
import Derived.Test.YtalodgghnpnnkaaDoorRef1
set_option linter.unusedVariables false
set_option linter.unusedSimpArgs false
set_option linter.unusedSectionVars false
namespace Dk.M
open Go Dk
variable [Mx]
structure SgI (l : List UInt8) (a : Nat) (c : UInt8) (X : Hp) (z : Nat) (fr : Fr) (h : Hp) : Prop where
 ex : ∃ i : Nat, i ≤ 14 ∧ z = 14 - i ∧ c ∉ signs1.take i ∧ h = X ∧ fr.get 0 = .p (.str (mkS l)) ∧ fr.get 1 = eI a ∧ fr.get 5 = .p (.str (mkS signs1)) ∧ fr.get 6 = eI i
theorem rsign_ok (l : List UInt8) (a : Nat) (ha : a < l.length) (h : Hp) (hl : h.lim ≤ h.objs.length) (hs : l.length < 2 ^ 62) : C0 n_sibylref02_sign [.p (.str (mkS l)), eI a] h = some (eI (signN (l.drop a)), h) := by
 refine call_loc noExt_mono (f := n_sibylref02_sign) rfl rfl rfl fun h0 e0 el => ?_
 obtain ⟨b, hb⟩ : ∃ b, b = a + 1 := ⟨_, rfl⟩
 have wb : IntKind.i64.wrap ((a : Int) + 1) = (b : Int) := by rw [wrap64 (by omega) (by omega)]; omega
 obtain ⟨c, hc⟩ : ∃ c, l[a] = c := ⟨_, rfl⟩
 have hd : l.drop a = c :: l.drop b := by rw [List.drop_eq_getElem_cons ha, hc, hb]
 have hsn : signN (l.drop a) = if (l.drop b).head? = some 61 ∧ inB signs2 c = true then 2 else if inB signs1 c = true then 1 else 0 := by rw [hd]; rfl
 rw [List.head?_drop] at hsn
 have q33 : decide ((c.toNat : Int) = 33) = decide (c = 33) := u8_eq c 33
 have q60 : decide ((c.toNat : Int) = 60) = decide (c = 60) := u8_eq c 60
 have q62 : decide ((c.toNat : Int) = 62) = decide (c = 62) := u8_eq c 62
 have h14 : signs1.length = 14 := rfl
 simp [wb]
 by_cases hbl : b < l.length
 · by_cases h61 : l[b] = 61
   · by_cases hs2 : inB signs2 c = true
     · have hc3 : c = 33 ∨ c = 60 ∨ c = 62 := by simpa [inB, signs2] using hs2
       have hr : signN (l.drop a) = 2 := by rw [hsn, if_pos ⟨by simp [hbl, h61], hs2⟩]
       rcases hc3 with rfl | rfl | rfl
       · simp [wb, hbl, h61, ha, hc, Ends, hr]
       · simp [wb, hbl, h61, ha, hc, Ends, hr]
       · simp [wb, hbl, h61, ha, hc, Ends, hr]
     · have hc3 : ¬ c = 33 ∧ ¬ c = 60 ∧ ¬ c = 62 := by simpa [inB, signs2] using hs2
       simp [wb, hbl, h61, ha, hc, q33, q60, q62, hc3]
       have hno : ¬ (l[b]? = some 61 ∧ inB signs2 c = true) := fun q => hs2 q.2
       have hr1 : inB signs1 c = true → signN (l.drop a) = 1 := fun q => by rw [hsn, if_neg hno, if_pos q]
       have hr0 : inB signs1 c = false → signN (l.drop a) = 0 := fun q => by rw [hsn, if_neg hno, if_neg (by simp [q])]
       refine Run_loop (SgI l a c h0) (n := 14) ⟨0, by omega, by omega, by simp, rfl, by simp, by simp, by simp; rfl, by simp⟩ ?_
       rintro z f1 h1 ⟨i, i1, i2, i3, rfl, g0, g1, g5, g6⟩
       by_cases hi : i < 14
       · have hi' : i < signs1.length := by omega
         have wi : IntKind.i64.wrap ((i : Int) + 1) = ((i + 1 : Nat) : Int) := by rw [wrap64 (by omega) (by omega)]; omega
         have hu := u8_eq (signs1[i]) c
         by_cases hq : signs1[i] = c
         · have hin : inB signs1 c = true := by rw [← hq]; simp [inB]
           rw [hq] at hu
           simp [g0, g1, g5, g6, hi', ha, hc, hq, Ends, hr1 hin]
         · have hu : ((signs1[i].toNat : Int) = (c.toNat : Int)) = False := by simpa [hq] using hu
           simp [g0, g1, g5, g6, hi', ha, hc, hu, wi]
           refine ⟨14 - (i + 1), by omega, i + 1, by omega, rfl, ?_, rfl, by simp [g0], by simp [g1], by simp [g5], by simp⟩
           rw [List.take_add_one, List.getElem?_eq_getElem hi']
           simp only [Option.toList_some, List.mem_append, List.mem_singleton, not_or]
           exact ⟨i3, fun e => hq e.symm⟩
       · have hi' : ¬ i < signs1.length := by omega
         have hin : inB signs1 c = false := by
          rw [List.take_of_length_le (by omega)] at i3
          simpa [inB] using i3
         simp [g5, g6, hi', Ends, hr0 hin]
   · have q61 : ((l[b].toNat : Int) = 61) = False := by
      have : decide ((l[b].toNat : Int) = 61) = decide (l[b] = 61) := u8_eq l[b] 61
      simpa [h61] using this
     have hno : ¬ (l[b]? = some 61 ∧ inB signs2 c = true) := fun q => h61 (by have := q.1; simpa [hbl] using this)
     simp [wb, hbl, q61]
     have hr1 : inB signs1 c = true → signN (l.drop a) = 1 := fun q => by rw [hsn, if_neg hno, if_pos q]
     have hr0 : inB signs1 c = false → signN (l.drop a) = 0 := fun q => by rw [hsn, if_neg hno, if_neg (by simp [q])]
     refine Run_loop (SgI l a c h0) (n := 14) ⟨0, by omega, by omega, by simp, rfl, by simp, by simp, by simp; rfl, by simp⟩ ?_
     rintro z f1 h1 ⟨i, i1, i2, i3, rfl, g0, g1, g5, g6⟩
     by_cases hi : i < 14
     · have hi' : i < signs1.length := by omega
       have wi : IntKind.i64.wrap ((i : Int) + 1) = ((i + 1 : Nat) : Int) := by rw [wrap64 (by omega) (by omega)]; omega
       have hu := u8_eq (signs1[i]) c
       by_cases hq : signs1[i] = c
       · have hin : inB signs1 c = true := by rw [← hq]; simp [inB]
         rw [hq] at hu
         simp [g0, g1, g5, g6, hi', ha, hc, hq, Ends, hr1 hin]
       · have hu : ((signs1[i].toNat : Int) = (c.toNat : Int)) = False := by simpa [hq] using hu
         simp [g0, g1, g5, g6, hi', ha, hc, hu, wi]
         refine ⟨14 - (i + 1), by omega, i + 1, by omega, rfl, ?_, rfl, by simp [g0], by simp [g1], by simp [g5], by simp⟩
         rw [List.take_add_one, List.getElem?_eq_getElem hi']
         simp only [Option.toList_some, List.mem_append, List.mem_singleton, not_or]
         exact ⟨i3, fun e => hq e.symm⟩
     · have hi' : ¬ i < signs1.length := by omega
       have hin : inB signs1 c = false := by
        rw [List.take_of_length_le (by omega)] at i3
        simpa [inB] using i3
       simp [g5, g6, hi', Ends, hr0 hin]
 · have hno : ¬ (l[b]? = some 61 ∧ inB signs2 c = true) := fun q => by have := q.1; rw [List.getElem?_eq_none (by omega)] at this; cases this
   simp [hbl]
   have hr1 : inB signs1 c = true → signN (l.drop a) = 1 := fun q => by rw [hsn, if_neg hno, if_pos q]
   have hr0 : inB signs1 c = false → signN (l.drop a) = 0 := fun q => by rw [hsn, if_neg hno, if_neg (by simp [q])]
   refine Run_loop (SgI l a c h0) (n := 14) ⟨0, by omega, by omega, by simp, rfl, by simp, by simp, by simp; rfl, by simp⟩ ?_
   rintro z f1 h1 ⟨i, i1, i2, i3, rfl, g0, g1, g5, g6⟩
   by_cases hi : i < 14
   · have hi' : i < signs1.length := by omega
     have wi : IntKind.i64.wrap ((i : Int) + 1) = ((i + 1 : Nat) : Int) := by rw [wrap64 (by omega) (by omega)]; omega
     have hu := u8_eq (signs1[i]) c
     by_cases hq : signs1[i] = c
     · have hin : inB signs1 c = true := by rw [← hq]; simp [inB]
       rw [hq] at hu
       simp [g0, g1, g5, g6, hi', ha, hc, hq, Ends, hr1 hin]
     · have hu : ((signs1[i].toNat : Int) = (c.toNat : Int)) = False := by simpa [hq] using hu
       simp [g0, g1, g5, g6, hi', ha, hc, hu, wi]
       refine ⟨14 - (i + 1), by omega, i + 1, by omega, rfl, ?_, rfl, by simp [g0], by simp [g1], by simp [g5], by simp⟩
       rw [List.take_add_one, List.getElem?_eq_getElem hi']
       simp only [Option.toList_some, List.mem_append, List.mem_singleton, not_or]
       exact ⟨i3, fun e => hq e.symm⟩
   · have hi' : ¬ i < signs1.length := by omega
     have hin : inB signs1 c = false := by
      rw [List.take_of_length_le (by omega)] at i3
      simpa [inB] using i3
     simp [g5, g6, hi', Ends, hr0 hin]
end Dk.M
