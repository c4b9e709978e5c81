/- CheckLimits, at D. -/
import Derived.Test.YtnhghaianccncaaDoorName
import Derived.Test.YtnhghaianccncaaDoorItoa
import Derived.Test.YtnhghaianccncaaDoorAwk
import Derived.Test.YtnhghaianccncaaDoorChk
set_option linter.unusedVariables false
set_option linter.unusedSimpArgs false
set_option linter.unusedSectionVars false
namespace Dk.L
open Go Dk
variable [Mx]
def ltrs : List UInt8 := [97, 98, 99, 100, 101, 102, 103, 104, 105]
def zs : List UInt8 := List.replicate 11 122
def nameL (m i : Nat) : List UInt8 := (ltrs.drop i).take 1 ++ zs.take (m - 1)
def elemL (m i : Nat) : Elem := ⟨(i % 8 : Nat), mkS (nameL m i), false, false⟩
def qL (k m : Nat) (w : Int) : Qry := ⟨(List.range k).map (elemL m), [], w, false⟩
def nmL (s : ByteArray) : Bool := nameB s.data.toList
omit [Mx] in
theorem names_all : ((List.range 9).all fun i => (List.range 11).all fun m => nameB (nameL (m + 1) i)) = true := by kernel_rfl
omit [Mx] in
theorem names_are {m i : Nat} (hi : i < 9) (h1 : 1 ≤ m) (h2 : m ≤ 11) : nameB (nameL m i) = true := by
 have h := List.all_eq_true.1 names_all i (List.mem_range.2 hi)
 have h := List.all_eq_true.1 h (m - 1) (List.mem_range.2 (by omega))
 rwa [show m - 1 + 1 = m by omega] at h
omit [Mx] in
theorem rest_all : ((List.range 7).all fun k => (List.range 9).all fun m => knownB (qL k m 0) && placedB (qL k m 0)) = true := by kernel_rfl
omit [Mx] in
theorem rest_are {k m : Nat} (hk : k < 7) (hm : m < 9) (w : Int) : knownB (qL k m w) = true ∧ placedB (qL k m w) = true := by
 have h := List.all_eq_true.1 rest_all k (List.mem_range.2 hk)
 have h := List.all_eq_true.1 h m (List.mem_range.2 hm)
 simp only [Bool.and_eq_true] at h
 exact h
omit [Mx] in
theorem nameL_len {m i : Nat} (hi : i < 9) (h1 : 1 ≤ m) (h2 : m ≤ 11) : (nameL m i).length = m := by
 simp [nameL, ltrs, zs]
 omega
omit [Mx] in
theorem printL {k m : Nat} {w : Int} (hk : 1 ≤ k ∧ k ≤ 9) (hm : 1 ≤ m ∧ m ≤ 11) (hw : 0 ≤ w) : printB nmL (qL k m w) = true := by
 have he : (qL k m w).es.all (elemB nmL) = true := by
  rw [List.all_eq_true]
  intro e he
  simp only [qL, List.mem_map, List.mem_range] at he
  obtain ⟨i, hi, rfl⟩ := he
  have := names_are (m := m) (i := i) (by omega) hm.1 hm.2
  simp [elemB, elemL, nmL, this]
  exact ⟨decide_eq_true (by omega), decide_eq_true (by omega)⟩
 simp only [printB, he]
 simp [qL, hw]
 omega
omit [Mx] in
theorem limL {k m : Nat} {w : Int} (hk : 1 ≤ k ∧ k ≤ 9) (hm : 1 ≤ m ∧ m ≤ 11) : limB (qL k m w) = decide (k ≤ 6 ∧ m ≤ 8 ∧ 1 ≤ w ∧ w ≤ 8) := by
 have he : ((qL k m w).es.any fun e => decide (8 < e.v.size)) = decide (8 < m) := by
  rw [Bool.eq_iff_iff, List.any_eq_true]
  simp only [qL, List.mem_map, List.mem_range, decide_eq_true_eq]
  constructor
  · rintro ⟨_, ⟨i, hi, rfl⟩, h⟩
    simp only [elemL, mkS_size] at h
    rwa [nameL_len (by omega) hm.1 hm.2] at h
  · intro h
    refine ⟨_, ⟨0, by omega, rfl⟩, ?_⟩
    simp only [elemL, mkS_size]
    rwa [nameL_len (by omega) hm.1 hm.2]
 simp only [limB, he]
 simp [qL]
 rw [Bool.eq_iff_iff]
 simp
 constructor
 · rintro ⟨⟨⟨h1, h2⟩, h3⟩, h4⟩
   exact ⟨h1, h4, of_decide_eq_true h2, of_decide_eq_true h3⟩
 · rintro ⟨h1, h4, h2, h3⟩
   exact ⟨⟨⟨h1, decide_eq_true h2⟩, decide_eq_true h3⟩, h4⟩
omit [Mx] in
theorem checkL {k m : Nat} {w : Int} (hk : 1 ≤ k ∧ k ≤ 9) (hm : 1 ≤ m ∧ m ≤ 11) (hw : 0 ≤ w) : checkE nmL (qL k m w) = if k ≤ 6 ∧ m ≤ 8 ∧ 1 ≤ w ∧ w ≤ 8 then 0 else 12 := by
 simp only [checkE, printL hk hm hw, limL hk hm, errOf, if_true]
 by_cases h : k ≤ 6 ∧ m ≤ 8 ∧ 1 ≤ w ∧ w ≤ 8
 · obtain ⟨r1, r2⟩ := rest_are (k := k) (m := m) (by omega) (by omega) w
   simp [h, r1, r2]
 · simp [h]
omit [Mx] in
theorem eW_le {b : Nat} : ∀ (es : List Elem), (∀ e ∈ es, e.v.size ≤ b) → eW es ≤ (b + 16) * es.length
 | [], _ => by simp [eW]
 | e :: r, h => by
  have h1 := h e (by simp)
  have h2 := eW_le r fun x hx => h x (by simp [hx])
  simp only [eW, List.length_cons, Nat.mul_add, Nat.mul_one]
  omega
theorem knL {k m w : Nat} (h : Hp) (hk : 1 ≤ k ∧ k ≤ 9) (hm : 1 ≤ m ∧ m ≤ 11) (hw : w < 32) : Kn nmL (fun _ => mkS []) (fun _ => mkS []) (mkS (itoa2 w)) h (qL k m w) := by
 have hsz : ∀ e ∈ (qL k m w).es, e.v.size ≤ 11 := by
  intro e he
  simp only [qL, List.mem_map, List.mem_range] at he
  obtain ⟨i, hi, rfl⟩ := he
  simp only [elemL, mkS_size]
  rw [nameL_len (by omega) hm.1 hm.2]
  omega
 refine ⟨by simp [qL]; omega, by simp [qL], by simp [qL], fun e he => ?_, by simp [qL], by simp [qL], fun _ => itoa_ok w (by omega), ?_⟩
 · simp only [qL, List.mem_map, List.mem_range] at he
   obtain ⟨i, hi, rfl⟩ := he
   have := name_ok (nameL m i) (by rw [nameL_len (by omega) hm.1 hm.2]; omega)
   simpa [elemL, nmL] using this
 · have h1 := eW_le _ hsz
   have h2 : (qL k m w).es.length = k := by simp [qL]
   have h3 : cW (fun _ => mkS []) (fun _ => mkS []) (qL k m w).cs = 0 := rfl
   have h4 : (mkS (itoa2 w)).size ≤ 2 := by
    rw [mkS_size, itoa2]
    split <;> simp <;> omega
   rw [h2] at h1
   omega
structure LmI (k m w : Nat) (X : Hp) (B : Nat) (z : Nat) (f : Fr) (h : Hp) : Prop where
 ex : ∃ (i : Nat) (v : EV) (fr : List Nat), i ≤ k ∧ z = k - i ∧ Fwd [B] X h ∧ f.get 7 = eB true ∧ f.get 8 = eI k ∧ f.get 9 = eI m ∧ f.get 10 = eI w ∧ f.get 11 = .ptr B 0 0 0 ∧ f.get 12 = eI i ∧ h.arr B 0 = some ⟨0, 4, true, 0, [[v, .full [], eI w, eB false]]⟩ ∧
  Own h 4 true v ((((List.range k).take i).map (elemL m)).map Elem.cells) fr ∧ (∀ y ∈ fr, B < y)
omit [Mx] in
theorem and31 (c : Int) : ∃ w : Nat, w < 32 ∧ binOp .and .none (.p (.int .i64 c)) (.p (.int .i64 31)) = some (eI w) := by
 refine ⟨(BitVec.ofInt 64 c &&& BitVec.ofInt 64 31).toNat, ?_, ?_⟩
 · rw [BitVec.toNat_and]
   have : (BitVec.ofInt 64 31).toNat = 31 := by decide
   rw [this]
   have := Nat.and_le_right (n := (BitVec.ofInt 64 c).toNat) (m := 31)
   omega
 · have h1 : (BitVec.ofInt 64 c &&& BitVec.ofInt 64 31).toNat ≤ 31 := by
    rw [BitVec.toNat_and]
    have : (BitVec.ofInt 64 31).toNat = 31 := by decide
    rw [this]
    exact Nat.and_le_right
   simp only [binOp, intBin]
   show some (EV.p (.int .i64 (IntKind.i64.wrap (((BitVec.ofInt 64 c &&& BitVec.ofInt 64 31).toNat : Nat) : Int)))) = _
   rw [wrap64 (by omega) (by omega)]
omit [Mx] in
theorem and7 : ∀ i : Nat, i < 9 → binOp .and .none (.p (.int .i64 (i : Int))) (.p (.int .i64 7)) = some (eI (i % 8 : Nat)) := by
 intro i hi
 have : i = 0 ∨ i = 1 ∨ i = 2 ∨ i = 3 ∨ i = 4 ∨ i = 5 ∨ i = 6 ∨ i = 7 ∨ i = 8 := by omega
 rcases this with rfl | rfl | rfl | rfl | rfl | rfl | rfl | rfl | rfl <;> rfl
omit [Mx] in
theorem rem_of (a : Int) (n : Nat) (hn : 0 < n) (hn2 : n < 100) : ∃ k : Nat, k < n ∧ IntKind.i64.wrap (a.tmod n + n) = a.tmod n + n ∧ (a.tmod n + n).tmod n = k ∧ IntKind.i64.wrap (1 + (k : Int)) = ((k + 1 : Nat) : Int) := by
 have b1 := Int.lt_tmod_of_pos a (b := n) (by omega)
 have b2 := Int.tmod_lt_of_pos a (b := n) (by omega)
 have r1 : 0 ≤ (a.tmod n + n).tmod n := Int.tmod_nonneg _ (by omega)
 have r2 : (a.tmod n + n).tmod n < n := Int.tmod_lt_of_pos _ (by omega)
 refine ⟨((a.tmod n + n).tmod n).toNat, by omega, wrap64 (by omega) (by omega), by omega, ?_⟩
 rw [wrap64 (by omega) (by omega)]
 omega
theorem limits_law (a b c : Int) : C0 n_sibyllaw04_CheckLimits [eI a, eI b, eI c] ⟨[], 0⟩ = some (eB true, ⟨[], 0⟩) := by
 refine call_loc noExt_mono (f := n_sibyllaw04_CheckLimits) rfl rfl rfl fun h0 e0 el => ?_
 have hl : h0.lim ≤ h0.objs.length := by omega
 simp
 refine PutA_eq (awake_ok h0 hl) ?_
 obtain ⟨k0, k1, k2, k3, k4⟩ := rem_of a 9 (by omega) (by omega)
 obtain ⟨m0, m1, m2, m3, m4⟩ := rem_of b 11 (by omega) (by omega)
 obtain ⟨w, w1, w2⟩ := and31 c
 simp only [Int.cast_ofNat_Int] at k2 k3 m2 m3
 obtain ⟨k, hk⟩ : ∃ k, k = k0 + 1 := ⟨_, rfl⟩
 obtain ⟨m, hm⟩ : ∃ m, m = m0 + 1 := ⟨_, rfl⟩
 rw [← hk] at k4
 rw [← hm] at m4
 simp [k2, k3, k4, m2, m3, m4, w2, ones, lk hl]
 obtain ⟨X, eX⟩ : ∃ X, X = (h0.new (.cells ⟨0, 4, true, 0, [[.full [], .full [], eI 0, eB false]]⟩)).setArr h0.objs.length ⟨0, 4, true, 0, [[.full [], .full [], eI w, eB false]]⟩ := ⟨_, rfl⟩
 have FX : Fwd [] h0 X := by rw [eX]; exact ((Fwd.refl _ _).new _).set _ (.inr (Nat.le_refl _))
 have nX : X.objs.length = h0.objs.length + 1 := by rw [eX]; simp
 have x0 : X.arr h0.objs.length 0 = some ⟨0, 4, true, 0, [[.full [], .full [], eI w, eB false]]⟩ := by rw [eX]; simp
 have e1 : (h0.new (.cells ⟨0, 4, true, 0, [[.full [], .full [], eI 0, eB false]]⟩)).setArr h0.objs.length ⟨0, 4, true, 0, [[.full [], .full [], .p (.int .i64 w), eB false]]⟩ = X := by rw [eX]
 rw [e1]
 clear e1 eX
 have hB := arr_lt x0
 have lX := FX.limlen hl
 refine Run_loop (LmI k m w X h0.objs.length) (n := k) ⟨0, .full [], [], by omega, rfl, Fwd.refl _ _, by simp, by simp, by simp, by simp, by simp, by simp, x0, .nil, by simp⟩ ?_
 rintro z f h1 ⟨i, v, fr, i1, i2, F1, g7, g8, g9, g10, g11, g12, a0, O, hfr⟩
 have F01 : Fwd [] h0 h1 := FX.trans' F1 (fun y hy => .inr (by simp at hy; omega))
 have l1 : h1.lim ≤ h1.objs.length := F01.limlen hl
 have lB : h1.lim ≤ h0.objs.length := by rw [F01.lim]; exact hl
 have lt1 := arr_lt a0
 by_cases hi : i < k
 · obtain ⟨j, hj⟩ : ∃ j, j = i + 1 := ⟨_, rfl⟩
   have wj : IntKind.i64.wrap ((i : Int) + 1) = (j : Int) := by rw [wrap64 (by omega) (by omega)]; omega
   have wm : IntKind.i64.wrap ((m : Int) - 1) = ((m - 1 : Nat) : Int) := by rw [wrap64 (by omega) (by omega)]; omega
   have s1 := sls_mid ltrs (a := i) (b := j) (by omega) (by simp [ltrs]; omega)
   rw [show j - i = 1 by omega] at s1
   have s2 := sls_hi zs (b := m - 1) (by simp [zs]; omega)
   have hadd := bin_saddL .none (a := (ltrs.drop i).take 1) (b := zs.take (m - 1)) (by simp [ltrs, zs]; omega)
   have a7 := and7 i (by omega)
   simp only [Int.natCast_emod, Int.cast_ofNat_Int] at a7
   simp [g7, g8, g9, g10, g11, g12, hi, a0, wj, wm, a7]
   rw [show bs [97, 98, 99, 100, 101, 102, 103, 104, 105] = mkS ltrs from rfl, s1]
   simp [wm]
   rw [show bs [122, 122, 122, 122, 122, 122, 122, 122, 122, 122, 122] = mkS zs from rfl, s2]
   simp [hadd, ones, lk l1]
   have eE : [EV.p (.int .i64 ((i : Int) % 8)), .p (.str (mkS ((ltrs.drop i).take 1 ++ zs.take (m - 1)))), eB false, eB false] = (elemL m i).cells := by simp [elemL, nameL, Elem.cells]
   rw [eE]
   obtain ⟨Y, eY⟩ : ∃ Y, Y = h1.new (.cells ⟨0, 4, true, 0, [(elemL m i).cells]⟩) := ⟨_, rfl⟩
   have FY : Fwd [] h1 Y := by rw [eY]; exact (Fwd.refl _ _).new _
   have y1 : Y.arr h1.objs.length 0 = some ⟨0, 4, true, 0, [(elemL m i).cells]⟩ := by rw [eY]; simp
   rw [← eY]
   clear eY
   have O2 := O.fwd FY (by simp)
   refine PutA_of (O2.append (ys := [(elemL m i).cells]) (by simp [elsOf, y1]) (by simp; omega) (FY.limlen l1)) ?_
   rintro v' h2 ⟨fr', O3, F2, G2⟩
   have F12 : Fwd fr h1 h2 := (FY.mono (by simp)).trans F2
   have a2 := F12.arr a0 (fun q => by have := hfr _ q; omega)
   have lt2 := arr_lt a2
   have lB2 : h2.lim ≤ h0.objs.length := by rw [F12.lim]; exact lB
   have vo := (View.own O3).one
   have vc := (View.own O3).cells
   have nfr : ∀ y ∈ fr', h0.objs.length < y := fun y hy => by
    rcases G2 y hy with q | q
    · exact hfr y q
    · have := FY.len; omega
   simp [g7, g8, g9, g10, g11, g12, a2, vo, vc, lB2, wj]
   have FS : Fwd [h0.objs.length] h2 (h2.setArr h0.objs.length ⟨0, 4, true, 0, [[v', .full [], eI w, eB false]]⟩) := (Fwd.refl _ _).set _ (.inl (by simp))
   refine ⟨k - j, by omega, j, v', fr', by omega, rfl, ?_, by simp [g7], by simp [g8], by simp [g9], by simp [g10], by simp [g11], by simp, by simp [lt2], ?_, nfr⟩
   · exact (F1.trans' F12 (fun y hy => .inr (by have := hfr y hy; omega))).trans FS
   · have O4 := O3.fwd FS (fun y hy q => by simp at q; have := nfr y hy; omega)
     rw [hj, List.take_add_one, List.getElem?_range hi]
     simpa using O4
 · have hik : i = k := by omega
   subst hik
   rw [List.take_of_length_le (by simp)] at O
   have V : QryV h1 (qL i m w) [v, .full [], eI w, eB false] := by
    refine ⟨v, .full [], rfl, View.own O, View.full (xs := []) rfl, by simp [qL]⟩
   have hck := Check_ok V (knL h1 (by omega) (by omega) w1) l1
   rw [checkL (by omega) (by omega) (by omega)] at hck
   by_cases c1 : (i : Int) ≤ 6
   · by_cases c2 : (m : Int) ≤ 8
     · by_cases c3 : (1 : Int) ≤ w
       · by_cases c4 : (w : Int) ≤ 8
         · rw [if_pos ⟨by omega, by omega, c3, c4⟩] at hck
           simp [g7, g8, g9, g10, g11, g12, a0, c1, c2, c3, c4]
           refine PutA_eq hck ?_
           simp [Ends]
         · rw [if_neg (fun q => c4 q.2.2.2)] at hck
           simp [g7, g8, g9, g10, g11, g12, a0, c1, c2, c3, c4]
           refine PutA_eq hck ?_
           simp [a0]
           refine PutA_eq hck ?_
           simp [Ends]
       · rw [if_neg (fun q => c3 q.2.2.1)] at hck
         simp [g7, g8, g9, g10, g11, g12, a0, c1, c2, c3]
         refine PutA_eq hck ?_
         simp [a0]
         refine PutA_eq hck ?_
         simp [Ends]
     · rw [if_neg (fun q => c2 (by omega))] at hck
       simp [g7, g8, g9, g10, g11, g12, a0, c1, c2]
       refine PutA_eq hck ?_
       simp [a0]
       refine PutA_eq hck ?_
       simp [Ends]
   · rw [if_neg (fun q => c1 (by omega))] at hck
     simp [g7, g8, g9, g10, g11, g12, a0, c1]
     refine PutA_eq hck ?_
     simp [a0]
     refine PutA_eq hck ?_
     simp [Ends]
theorem checkLimits_D : ∀ xss, Typed [([.int .i64], false), ([.int .i64], false), ([.int .i64], false)] xss → C0 n_sibyllaw04_CheckLimits (argsEV [([.int .i64], false), ([.int .i64], false), ([.int .i64], false)] xss) ⟨[], 0⟩ = some (eB true, ⟨[], 0⟩) := by
 intro xss h
 simp only [Typed, PTs, PT] at h
 obtain ⟨_, _, rfl, ⟨_, _, rfl, ⟨a, rfl, ha⟩, rfl⟩, ⟨_, _, rfl, ⟨_, _, rfl, ⟨b, rfl, hb⟩, rfl⟩, ⟨_, _, rfl, ⟨_, _, rfl, ⟨c, rfl, hc⟩, rfl⟩, rfl⟩⟩⟩ := h
 exact limits_law a b c
end Dk.L
