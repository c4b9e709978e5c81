/- QueryNest, at D. -/
import Derived.Test.YtalodgghnpnnkaaDoorNest3
import Derived.Test.YtalodgghnpnnkaaDoorAwk
set_option linter.unusedVariables false
set_option linter.unusedSimpArgs false
set_option linter.unusedSectionVars false
namespace Dk.M
open Go Dk
variable [Mx]
omit [Mx] in
theorem rem31 (a : Int) : ∃ k : Nat, k < 31 ∧ IntKind.i64.wrap (a.tmod 31 + 31) = a.tmod 31 + 31 ∧ (a.tmod 31 + 31).tmod 31 = k := by
 have b1 := Int.lt_tmod_of_pos a (b := 31) (by omega)
 have b2 := Int.tmod_lt_of_pos a (b := 31) (by omega)
 have r1 : 0 ≤ (a.tmod 31 + 31).tmod 31 := Int.tmod_nonneg _ (by omega)
 have r2 : (a.tmod 31 + 31).tmod 31 < 31 := Int.tmod_lt_of_pos _ (by omega)
 exact ⟨((a.tmod 31 + 31).tmod 31).toNat, by omega, wrap64 (by omega) (by omega), by omega⟩
structure NeI (n : Nat) (b : Int) (X : Hp) (z : Nat) (f : Fr) (h : Hp) : Prop where
 ex : ∃ bs : List Bool, bs.length ≤ n ∧ z = n - bs.length ∧ h = X ∧ f.get 1 = eI b ∧ f.get 5 = eB true ∧ f.get 6 = eI n ∧ f.get 7 = .p (.str (mkS (preT ++ bs.map sg))) ∧ f.get 8 = .p (.str (mkS (List.replicate (opens bs) 41))) ∧ f.get 9 = eI bs.length
theorem nest_law (a b : Int) : C0 n_sibyllaw03_QueryNest [eI a, eI b] ⟨[], 0⟩ = some (eB true, ⟨[], 0⟩) := by
 refine call_loc noExt_mono (f := n_sibyllaw03_QueryNest) rfl rfl rfl fun h0 e0 el => ?_
 have hl : h0.lim ≤ h0.objs.length := by omega
 simp
 refine PutA_eq (awake_ok h0 hl) ?_
 obtain ⟨n, n1, n2, n3⟩ := rem31 a
 simp [n2, n3]
 refine Run_loop (NeI n b h0) (n := n) ⟨[], by simp, by simp, rfl, by simp, by simp, by simp, by simp; rfl, by simp; rfl, by simp⟩ ?_
 rintro z f h1 ⟨bs, c1, c2, rfl, g1, g5, g6, g7, g8, g9⟩
 have ho := opens_le bs
 have hpre : (preT ++ bs.map sg).length = 14 + bs.length := by simp [preT]; omega
 by_cases hi : bs.length < n
 · have wu : IntKind.u64.wrap (bs.length : Int) = (bs.length : Int) := by
    simp [IntKind.wrap, IntKind.signed, IntKind.bits]
    omega
   have w1 : IntKind.i64.wrap ((bs.length : Int) + 1) = ((bs.length + 1 : Nat) : Int) := by rw [wrap64 (by omega) (by omega)]; omega
   obtain ⟨y, hy⟩ : ∃ y, binOp .shr .none (.p (.int .i64 b)) (.p (.int .u64 (bs.length : Int))) = some (.p (.int .i64 y)) := by
    refine ⟨b.fdiv (2 ^ (min bs.length 64)), ?_⟩
    have : ¬ ((bs.length : Int) < 0) := by omega
    simp [binOp, intShift, IntKind.bits]
   obtain ⟨x, hx⟩ : ∃ x, binOp .and .none (.p (.int .i64 y)) (.p (.int .i64 1)) = some (.p (.int .i64 x)) := ⟨_, rfl⟩
   have s1 : binOp .add .none (.p (.str (mkS (preT ++ bs.map sg)))) (.p (.str (Dk.bs [40]))) = _ := bin_saddL .none (a := preT ++ bs.map sg) (b := [40]) (by rw [hpre]; simp; omega)
   have s2 : binOp .add .none (.p (.str (mkS (preT ++ bs.map sg)))) (.p (.str (Dk.bs [45]))) = _ := bin_saddL .none (a := preT ++ bs.map sg) (b := [45]) (by rw [hpre]; simp; omega)
   have s3 : binOp .add .none (.p (.str (mkS (List.replicate (opens bs) 41)))) (.p (.str (Dk.bs [41]))) = _ := bin_saddL .none (a := List.replicate (opens bs) 41) (b := [41]) (by simp; omega)
   by_cases hx1 : x = 1
   · simp [g1, g5, g6, g7, g8, g9, hi, wu, hy, hx, hx1, s1, s3, w1]
     refine ⟨n - (bs.length + 1), by omega, bs ++ [true], by simp; omega, by simp, rfl, by simp [g1], by simp [g5], by simp [g6], by simp [sg], ?_, by simp⟩
     have : opens (bs ++ [true]) = opens bs + 1 := by simp [opens]
     simp [this, List.replicate_succ']
   · simp [g1, g5, g6, g7, g8, g9, hi, wu, hy, hx, hx1, s2, w1]
     refine ⟨n - (bs.length + 1), by omega, bs ++ [false], by simp; omega, by simp, rfl, by simp [g1], by simp [g5], by simp [g6], by simp [sg], ?_, by simp⟩
     have : opens (bs ++ [false]) = opens bs := by simp [opens]
     simp [this, g8]
 · have hn : bs.length = n := by omega
   have s1 : binOp .add .none (.p (.str (mkS (preT ++ bs.map sg)))) (.p (.str (Dk.bs [49]))) = _ := bin_saddL .none (a := preT ++ bs.map sg) (b := [49]) (by rw [hpre]; simp; omega)
   obtain ⟨a1, ha1⟩ : ∃ a1, a1 = (preT ++ bs.map sg) ++ [49] := ⟨_, rfl⟩
   have la1 : a1.length = 15 + bs.length := by rw [ha1, List.length_append, hpre]; simp; omega
   rw [← ha1] at s1
   have s2 := bin_saddL .none (a := a1) (b := List.replicate (opens bs) 41) (by rw [la1]; simp; omega)
   obtain ⟨a2, ha2⟩ : ∃ a2, a2 = a1 ++ List.replicate (opens bs) 41 := ⟨_, rfl⟩
   have la2 : a2.length = 15 + bs.length + opens bs := by rw [ha2, List.length_append, la1]; simp
   rw [← ha2] at s2
   have s3 : binOp .add .none (.p (.str (mkS a2))) (.p (.str (Dk.bs [32, 61, 32, 48, 32, 119, 105, 116, 104, 105, 110, 32, 51]))) = _ := bin_saddL .none (a := a2) (b := postT) (by rw [la2]; simp [postT]; omega)
   have eT : a2 ++ postT = nestT bs := by rw [ha2, ha1]; simp [nestT]
   rw [eT] at s3
   clear ha1 ha2 eT
   have hTl := nestT_len bs
   simp [g1, g5, g6, g7, g8, g9, hi, s1, s2, s3]
   refine PutA_of (parse_ok (nestT bs) (by omega) h1 hl) ?_
   rintro _ h2 ⟨F2, p, hp, hsz, x, rfl, Q⟩
   have hlx := nest_lex bs (by omega)
   have hpa : parA (nestT bs) p = match queryF p with
    | .ok (q, _) => (q, ((nestT bs).length : Int), 0)
    | .error (a, e) => (q0, a, e) := by
    have h0 : (lexR (nestT bs)).2.2 = 0 := by rw [hlx]
    simp only [parA, h0, if_true]
    cases queryF p <;> rfl
   rw [hlx] at hp
   obtain ⟨q1, q2⟩ := nest_query p bs hp
   have l2 := F2.limlen hl
   by_cases h16 : 16 < n
   · have h16' : ((16 : Int) < n) = True := eq_true (by omega)
     rw [q2 (by omega)] at hpa
     rw [hpa] at Q ⊢
     obtain ⟨ev, cv, cl, f1, f2, rfl, O1, -, O2, -⟩ := Q
     have vo1 := (View.own O1).one
     have vo2 := (View.own O2).one
     have hlen := O1.len
     simp only [q0, List.map_nil, List.length_nil] at hlen
     have hlen2 : ∀ h, lenOf 0 ev h = some 0 := by
      intro h
      have := (View.own O1).len h
      simpa [q0] using this
     simp [ones, vo1, vo2, lk l2, h16', hlen2, g5, Ends]
   · have h16' : ((16 : Int) < n) = False := eq_false (by omega)
     obtain ⟨q, k, hq, hq1⟩ := q1 (by omega)
     rw [hq] at hpa
     rw [hpa] at Q ⊢
     obtain ⟨ev, cv, cl, f1, f2, rfl, O1, -, O2, -, e2, -⟩ := Q
     have vo1 := (View.own O1).one
     have vo2 := (View.own O2).one
     have hcl : cl.length = 1 := by
      have := congrArg List.length e2
      simp at this
      omega
     have hlen2 : ∀ h, lenOf 0 cv h = some 1 := by
      intro h
      have := (View.own O2).len h
      simpa [hcl] using this
     simp [ones, vo1, vo2, lk l2, h16', hlen2, g5, Ends]
theorem queryNest_D : ∀ xss, Typed [([.int .i64], false), ([.int .i64], false)] xss → C0 n_sibyllaw03_QueryNest (argsEV [([.int .i64], false), ([.int .i64], false)] xss) ⟨[], 0⟩ = some (eB true, ⟨[], 0⟩) := by
 intro xss h
 simp only [Typed, PTs, PT] at h
 obtain ⟨_, _, rfl, ⟨_, _, rfl, ⟨a, rfl, ha⟩, rfl⟩, ⟨_, _, rfl, ⟨_, _, rfl, ⟨b, rfl, hb⟩, rfl⟩, rfl⟩⟩ := h
 exact nest_law a b
end Dk.M
