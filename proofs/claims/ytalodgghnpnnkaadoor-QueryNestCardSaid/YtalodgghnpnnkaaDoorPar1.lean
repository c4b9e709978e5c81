/- The parser's small functions, at D. -/
import Derived.Test.YtalodgghnpnnkaaDoorKwK
import Derived.Test.YtalodgghnpnnkaaDoorQry
set_option linter.unusedVariables false
set_option linter.unusedSimpArgs false
set_option linter.unusedSectionVars false
namespace Dk.M
open Go Dk
variable [Mx]
omit [Mx] in
@[simp] theorem Run_mvc (C : CallFn) (l : List Step) (k : List Ct) (fr : Fr) (h : Hp) (Q : Ex → Fr → Hp → Prop) (d : Option Nat) (x : X) (c0 : Chk) (cs : List Chk) :
 Run C (.ops (⟨d, .mv x, none, c0 :: cs⟩ :: l) :: k) .normal fr h Q = Chks C (c0 :: cs) fr d (x.ev fr) (.ops l :: k) fr h Q := by
 simp only [Run, WS_step, Chks]
 apply propext
 have e : runStep C ⟨d, .mv x, none, c0 :: cs⟩ fr h = if still fr h (c0 :: cs) = true then some (fr.put d (x.ev fr), h) else none := by
  simp only [runStep, runOp, DOp.kind, look, Option.map_some]
 rw [e]
 constructor
 · rintro ⟨fr1, h1, q, r⟩
   split at q
   · rename_i hs
     cases q
     exact ⟨hs, r⟩
   · cases q
 · rintro ⟨hs, r⟩
   exact ⟨_, _, if_pos hs, r⟩
omit [Mx] in
@[simp] theorem look_mv' (x : X) (fr : Fr) (h : Hp) : look (.mv x) fr h = some (x.ev fr) := rfl
omit [Mx] in
@[simp] theorem Run_mki (C : CallFn) (l : List Step) (k : List Ct) (fr : Fr) (h : Hp) (Q : Ex → Fr → Hp → Prop) (d : Option Nat) (t : Nat) (x : X) : Run C (.ops (⟨d, .mki t x, none, []⟩ :: l) :: k) .normal fr h Q = PutV C d (.iface t (x.ev fr)) (.ops l :: k) fr h Q := by
 rw [Run_look (hk := rfl)]
 simp [look]
omit [Mx] in
@[simp] theorem Run_asr (C : CallFn) (l : List Step) (k : List Ct) (fr : Fr) (h : Hp) (Q : Ex → Fr → Hp → Prop) (d : Option Nat) (t : Nat) (z : EV) (x : X) : Run C (.ops (⟨d, .asr t z x, none, []⟩ :: l) :: k) .normal fr h Q = PutO C d (match x.ev fr with
 | .nili => some (.tup [z, .p (.bool false)])
 | .iface u v => if u = t then some (.tup [v, .p (.bool true)]) else some (.tup [z, .p (.bool false)])
 | _ => none) (.ops l :: k) fr h Q := by
 rw [Run_look (hk := rfl)]
 rfl
structure Prs where
 ts : List Tok
 w : EV
 size : Int
 hw : w = .p (.list (ts.map Tok.pd)) ∨ w = .full (ts.map Tok.pd)
 big : ts.length ≤ 200
 txt : ∀ t ∈ ts, t.text.length < 2 ^ 31 ∧ (t.kind = 1 → ∀ c ∈ t.text, c ≠ 32)
def tok0 : Tok := ⟨0, 0, [], 0⟩
def Prs.tok (p : Prs) (i : Nat) : Tok := p.ts[i]?.getD tok0
def Prs.at (p : Prs) (i : Nat) : Int := match p.ts[i]? with
 | some t => t.at_
 | none => p.size
def Prs.is (p : Prs) (i : Nat) (s : List UInt8) : Bool := decide (i < p.ts.length) && decide ((p.tok i).text = s)
omit [Mx] in
theorem Prs.view (p : Prs) (h : Hp) : View h 4 p.w (p.ts.map Tok.cells) := by
 have hsz : sized 4 (p.ts.map Tok.pd) = true := by simp [sized, Tok.pd]
 have e : p.ts.map Tok.cells = (p.ts.map Tok.pd).map toEV := by simp [Tok.pdev, Function.comp_def]
 rw [e]
 rcases p.hw with q | q
 · rw [q]; exact View.list hsz
 · rw [q]; exact View.full hsz
structure Par (h : Hp) (P : Nat) (p : Prs) (i n : Nat) : Prop where
 ar : h.arr P 0 = some ⟨0, 4, true, 0, [[p.w, eI i, eI p.size, eI n]]⟩
 le : i ≤ p.ts.length
 deep : n ≤ 16
omit [Mx] in
theorem Par.lt {h : Hp} {P : Nat} {p : Prs} {i n : Nat} (H : Par h P p i n) : P < h.objs.length := arr_lt H.ar
omit [Mx] in
theorem Par.fwd {h h' : Hp} {P : Nat} {p : Prs} {i n : Nat} {ids : List Nat} (H : Par h P p i n) (f : Fwd ids h h') (hP : P ∉ ids) : Par h' P p i n :=
 ⟨f.arr H.ar hP, H.le, H.deep⟩
omit [Mx] in
theorem Par.of {h h0 : Hp} {P : Nat} {p : Prs} {i n : Nat} (H : Par h P p i n) (e : h0.objs = h.objs) : Par h0 P p i n := ⟨(Pfx.of e).arr H.ar, H.le, H.deep⟩
theorem now_ok {h : Hp} {P : Nat} {p : Prs} {i n : Nat} (H : Par h P p i n) : C0 n_query_row_now [.ptr P 0 0 0] h = some (.tup [.agg (p.tok i).cells, eB (decide (i < p.ts.length))], h) := by
 refine call_loc noExt_mono (f := n_query_row_now) rfl rfl (by simp [Tok.cells]) fun h0 e0 el => ?_
 have a0 := (Pfx.of e0).arr H.ar
 have V0 := p.view h0
 have hP := arr_lt a0
 have l0 : h0.lim ≤ h0.objs.length := by omega
 have FX : Fwd [] h0 (h0.new (.cells ⟨0, 4, true, 0, [[eI 0, eI 0, .p (.str (bs [])), eI 0]]⟩)) := (Fwd.refl _ _).new _
 by_cases hi : i < p.ts.length
 · have hi' : ((i : Int) < p.ts.length) = True := eq_true (by omega)
   have ht : (p.ts.map Tok.cells)[i]? = some (p.tok i).cells := by
    simp [Prs.tok, hi]
   obtain ⟨q, q1, q2⟩ := V0.get ht rfl
   have q2 := q2 _ (pfx FX)
   simp [a0, nl hP, V0.len, hi', q1, q2, Tok.cells, ones, Ends, hi, lk l0]
 · have hi' : ((i : Int) < p.ts.length) = False := eq_false (by omega)
   have hn : p.ts[i]? = none := List.getElem?_eq_none (by omega)
   simp [a0, nl hP, V0.len, hi', ones, Ends, hi, Prs.tok, hn, tok0, Tok.cells, lk l0]
   rfl
theorem at_ok {h : Hp} {P : Nat} {p : Prs} {i n : Nat} (H : Par h P p i n) : C0 n_query_parser_at [.ptr P 0 0 0] h = some (eI (p.at i), h) := by
 refine call_loc noExt_mono (f := n_query_parser_at) rfl rfl rfl fun h0 e0 el => ?_
 have H0 := H.of e0
 have a0 := H0.ar
 have hP := arr_lt a0
 have l0 : h0.lim ≤ h0.objs.length := by omega
 simp
 refine PutA_eq (now_ok H0) ?_
 by_cases hi : i < p.ts.length
 · simp [hi, Tok.cells, ones, lk l0, a0, nl hP, Ends]
   simp [Prs.at, Prs.tok, hi]
 · simp [hi, Tok.cells, ones, lk l0, a0, nl hP, Ends]
   simp [Prs.at, hi]
theorem is_ok {h : Hp} {P : Nat} {p : Prs} {i n : Nat} (H : Par h P p i n) (s : List UInt8) : C0 n_query_parser_is [.ptr P 0 0 0, .p (.str (mkS s))] h = some (eB (p.is i s), h) := by
 refine call_loc noExt_mono (f := n_query_parser_is) rfl rfl rfl fun h0 e0 el => ?_
 have H0 := H.of e0
 have a0 := H0.ar
 have hP := arr_lt a0
 have l0 : h0.lim ≤ h0.objs.length := by omega
 simp
 refine PutA_eq (now_ok H0) ?_
 by_cases hi : i < p.ts.length
 · simp [hi, Tok.cells, ones, lk l0, a0, nl hP, str_eql, Ends]
   simp [Prs.is, hi]
 · simp [hi, Tok.cells, ones, lk l0, a0, nl hP, Ends]
   simp [Prs.is, hi]
def stepN (b : Bool) (i : Nat) : Nat := if b = true then i + 1 else i
theorem may_ok {h : Hp} {P : Nat} {p : Prs} {i n : Nat} (H : Par h P p i n) (hw : h.lim ≤ P) (s : List UInt8) :
 WA (C0 n_query_parser_may [.ptr P 0 0 0, .p (.str (mkS s))] h) fun v h' => v = eB (p.is i s) ∧ Par h' P p (stepN (p.is i s) i) n ∧ Fwd [P] h h' := by
 refine call_W noExt_mono (f := n_query_parser_may) rfl rfl ?_
 have a0 := H.ar
 have hP := H.lt
 have hbig := p.big
 simp
 refine PutA_eq (is_ok H s) ?_
 cases hb : p.is i s with
 | false =>
  simp [Ends, stepN]
  exact ⟨H, Fwd.refl _ _⟩
 | true =>
  have hi : i < p.ts.length := by
   simp only [Prs.is, Bool.and_eq_true, decide_eq_true_eq] at hb
   exact hb.1
  have w : IntKind.i64.wrap ((i : Int) + 1) = ((i + 1 : Nat) : Int) := by rw [wrap64 (by omega) (by omega)]; omega
  simp [a0, nl hP, w, lk hw, hP, Ends, stepN]
  exact ⟨⟨by simp [hP], by omega, H.deep⟩, (Fwd.refl _ _).set _ (.inl (by simp))⟩
def pv (a e : Int) : EV := .iface wrongT (.agg [eI a, eI e])
def pErr (a e : Int) : EV := .tup [eB true, pv a e]
theorem must_ok {h : Hp} {P : Nat} {p : Prs} {i n : Nat} (H : Par h P p i n) (b : Bool) : WA (C0 n_query_parser_must [.ptr P 0 0 0, eB b, pagm] h) fun v h' => v = (if b = true then .tup [eB false, .tup []] else pErr (p.at i) 11) ∧ h' = h := by
 refine call_W noExt_mono (f := n_query_parser_must) rfl rfl ?_
 cases b with
 | true =>
  simp [pagm, Ends]
 | false =>
  simp [pagm]
  refine PutA_eq (at_ok H) ?_
  simp [Ends, pErr, pv]
end Dk.M
