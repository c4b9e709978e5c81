/- A query's text with signs and brackets that stand in one another: what is parsed of it. No program here. -/
import Derived.Test.YtalodgghnpnnkaaDoorNest2
import Derived.Test.YtalodgghnpnnkaaDoorPar10
set_option linter.unusedVariables false
set_option linter.unusedSimpArgs false
set_option linter.unusedSectionVars false
namespace Dk.M
open Go Dk
def preK : List Tok := [⟨1, 0, [115, 101, 113], 0⟩, ⟨2, 4, [65], 0⟩, ⟨1, 6, [97], 0⟩, ⟨1, 8, [119, 104, 101, 114, 101], 0⟩]
def postK (a : Nat) : List Tok := [⟨4, (a + 1 : Nat), [61], 0⟩, ⟨3, (a + 3 : Nat), [48], 0⟩, ⟨1, (a + 5 : Nat), [119, 105, 116, 104, 105, 110], 0⟩, ⟨3, (a + 12 : Nat), [51], 3⟩]
def nestK (bs : List Bool) : List Tok := preK ++ (sgToks 14 (bs.map sg) ++ (⟨3, (14 + bs.length : Nat), [49], 1⟩ :: (sgToks (15 + bs.length) (List.replicate (opens bs) 41) ++ postK (15 + bs.length + opens bs))))
theorem opens_le (bs : List Bool) : opens bs ≤ bs.length := List.count_le_length
theorem nest_toks (bs : List Bool) : toks 0 (nestT bs) = (nestK bs, 15 + bs.length + opens bs + 13) := by
 have h1 := toks_pre (bs.map sg ++ (49 :: (List.replicate (opens bs) 41 ++ postT)))
 have h2 := toks_signs (bs.map sg) 14 (49 :: (List.replicate (opens bs) 41 ++ postT)) (fun c hc => by
  simp only [List.mem_map] at hc
  obtain ⟨b, -, rfl⟩ := hc
  cases b <;> simp [sg])
 have h3 : toks (14 + bs.length) (49 :: (List.replicate (opens bs) 41 ++ postT)) = (⟨3, (14 + bs.length : Nat), [49], 1⟩ :: (toks (15 + bs.length) (List.replicate (opens bs) 41 ++ postT)).1, (toks (15 + bs.length) (List.replicate (opens bs) 41 ++ postT)).2) := by
  rw [show 15 + bs.length = 14 + bs.length + 1 by omega]
  cases opens bs with
  | zero => exact toks_one (14 + bs.length) (.inr rfl) _
  | succ m => exact toks_one (14 + bs.length) (.inl rfl) _
 have h4 := toks_signs (List.replicate (opens bs) 41) (15 + bs.length) postT (fun c hc => by rw [List.mem_replicate] at hc; exact .inr (.inr hc.2))
 have h5 := toks_post (15 + bs.length + opens bs)
 rw [List.length_map] at h2
 rw [List.length_replicate] at h4
 rw [nestT, h1, h2, h3, h4, h5]
 rfl
theorem nestT_len (bs : List Bool) : (nestT bs).length = 15 + bs.length + opens bs + 13 := by
 simp [nestT, preT, postT]
 omega
theorem nestK_len (bs : List Bool) : (nestK bs).length = 9 + bs.length + opens bs := by
 simp [nestK, preK, postK, sgToks_len]
 omega
theorem nest_lex (bs : List Bool) (hb : bs.length ≤ 30) : lexR (nestT bs) = (nestK bs, ((nestT bs).length : Int), 0) := by
 have hk := nestK_len bs
 have ho := opens_le bs
 have h2 : (nestK bs)[200]? = none := List.getElem?_eq_none (by omega)
 simp only [lexR, nest_toks, h2]
 rw [if_neg (by rw [nestT_len]; omega)]
theorem nest_query (p : Prs) (bs : List Bool) (hp : p.ts = nestK bs) : (bs.length ≤ 16 → ∃ q k, queryF p = .ok (q, k) ∧ q.2.1.length = 1) ∧ (16 < bs.length → queryF p = .error (30, 12)) := by
 have hlen : p.ts.length = 9 + bs.length + opens bs := by rw [hp, nestK_len]
 have d0 : p.ts.drop 0 = ⟨1, 0, [115, 101, 113], 0⟩ :: (nestK bs).drop 1 := by rw [hp]; rfl
 obtain ⟨i0, t0, a0, s0, d1⟩ := at_drop d0
 have d1 : p.ts.drop 1 = ⟨2, 4, [65], 0⟩ :: (nestK bs).drop 2 := d1
 obtain ⟨i1, t1, a1, s1, d2⟩ := at_drop d1
 have d2 : p.ts.drop 2 = ⟨1, 6, [97], 0⟩ :: (nestK bs).drop 3 := d2
 obtain ⟨i2, t2, a2, s2, d3⟩ := at_drop d2
 have d3 : p.ts.drop 3 = ⟨1, 8, [119, 104, 101, 114, 101], 0⟩ :: (nestK bs).drop 4 := d3
 obtain ⟨i3, t3, a3, s3, d4⟩ := at_drop d3
 have d4 : p.ts.drop 4 = sgToks 14 (bs.map sg) ++ (⟨3, (14 + bs.length : Nat), [49], 1⟩ :: (sgToks (15 + bs.length) (List.replicate (opens bs) 41) ++ postK (15 + bs.length + opens bs))) := d4
 have hk97 : kwB [97] = false := by decide
 have he : elemF p 1 = .ok (⟨0, mkS [97], false, false⟩, 3) := by
  simp [elemF, s1, stepN, kindF, i1, t1, s2, i2, t2, hk97]
 have hels : elsL p (p.ts.length + 1) [] 1 = .ok ([⟨0, mkS [97], false, false⟩], 3) := by
  rw [elsL, he]
  simp [s3]
 have hq : queryF p = withinQ p [⟨0, mkS [97], false, false⟩] (cndsL p (p.ts.length + 1) [] 4) := by
  rw [queryF, if_pos (by rw [s0]; rfl), hels, elsQ, whereF, if_pos (by rw [s3]; rfl)]
 obtain ⟨k1, k2⟩ := unary_nest p ⟨4, (15 + bs.length + opens bs + 1 : Nat), [61], 0⟩ [⟨3, (15 + bs.length + opens bs + 3 : Nat), [48], 0⟩, ⟨1, (15 + bs.length + opens bs + 5 : Nat), [119, 105, 116, 104, 105, 110], 0⟩, ⟨3, (15 + bs.length + opens bs + 12 : Nat), [51], 3⟩] bs 16 4 14 (14 + bs.length) (15 + bs.length) (opens bs) (Nat.le_refl _) d4 (Nat.le_refl _)
 refine ⟨fun hb => ?_, fun hb => ?_⟩
 · obtain ⟨l, hl⟩ := k1 hb
   obtain ⟨j, hj⟩ : ∃ j, j = 4 + bs.length + 1 + opens bs := ⟨_, rfl⟩
   rw [← hj] at hl
   have dj : p.ts.drop j = postK (15 + bs.length + opens bs) := by
    rw [hj, show 4 + bs.length + 1 + opens bs = 4 + (bs.length + (1 + opens bs)) by omega, ← List.drop_drop, d4, ← List.drop_drop]
    rw [List.drop_append_of_le_length (by rw [sgToks_len]; simp)]
    have e0 : (sgToks 14 (bs.map sg)).drop bs.length = [] := List.drop_eq_nil_of_le (by rw [sgToks_len]; simp)
    rw [e0, List.nil_append, show 1 + opens bs = opens bs + 1 by omega, List.drop_succ_cons]
    rw [List.drop_append_of_le_length (by rw [sgToks_len]; simp)]
    have e1 : (sgToks (15 + bs.length) (List.replicate (opens bs) 41)).drop (opens bs) = [] := List.drop_eq_nil_of_le (by rw [sgToks_len]; simp)
    rw [e1, List.nil_append]
   obtain ⟨ij, tj, aj, sj, dj1⟩ := at_drop dj
   obtain ⟨ij1, tj1, aj1, sj1, dj2⟩ := at_drop dj1
   obtain ⟨ij2, tj2, aj2, sj2, dj3⟩ := at_drop dj2
   obtain ⟨ij3, tj3, aj3, sj3, dj4⟩ := at_drop dj3
   have c1 : sumF p 4 = .ok (l, j) := sum_stop hl dj ⟨by simp [muls], by simp [adds]⟩
   have hu2 : unaryF p 16 (j + 1) = .ok ([⟨6, 0, mkS [], 0, 0⟩], j + 2) := by
    have hk : kindF p (j + 1) 3 = .ok (p.tok (j + 1), j + 2) := by simp [kindF, ij1, tj1]
    simp [unaryF, unaryS, sj1, tj1, hk, intR]
   have c2 : sumF p (j + 1) = .ok ([⟨6, 0, mkS [], 0, 0⟩], j + 2) := sum_stop hu2 dj2 ⟨by simp [muls], by simp [adds]⟩
   have hpk : pickF p j 0 sgs = (0, j + 1) := by
    simp [sgs, pickF, sj]
   have hc : condF p 4 = .ok ((1, l, [⟨6, 0, mkS [], 0, 0⟩]), j + 2) := by
    simp [condF, c1, hpk, c2]
   have hcs : cndsL p (p.ts.length + 1) [] 4 = .ok ([(1, l, [⟨6, 0, mkS [], 0, 0⟩])], j + 2) := by
    rw [cndsL, hc]
    simp [sj2]
   have hk3 : kindF p (j + 3) 3 = .ok (p.tok (j + 3), j + 4) := by simp [kindF, ij3, tj3]
   have hby : p.is (j + 4) [98, 121] = false := by
    have : ¬ (j + 4 < p.ts.length) := by omega
    simp [Prs.is, this]
   have hjl : j + 4 = p.ts.length := by omega
   refine ⟨([⟨0, mkS [97], false, false⟩], [(1, l, [⟨6, 0, mkS [], 0, 0⟩])], 3, false), p.ts.length, ?_, rfl⟩
   rw [hq, hcs, withinQ, if_pos (by rw [sj2]; rfl), hk3]
   have hby' : p.is p.ts.length [98, 121] = false := by simp [Prs.is]
   simp only [hjl, tj3]
   simp [tailF, hby', stepN]
 · have h16 := k2 hb
   rw [hq, cndsL, condF, show sumF p 4 = .error (((14 + 16 : Nat) : Int), 12) from chain_err (chain_err h16)]
   rfl
end Dk.M
