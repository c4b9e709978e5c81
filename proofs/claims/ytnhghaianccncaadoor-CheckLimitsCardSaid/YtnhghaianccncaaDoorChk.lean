/- check.Check of any query. -/
import Derived.Test.YtnhghaianccncaaDoorCheck
import Derived.Test.YtnhghaianccncaaDoorPnt
import Derived.Test.YtnhghaianccncaaDoorPla
set_option linter.unusedVariables false
set_option linter.unusedSimpArgs false
set_option linter.unusedSectionVars false
namespace Dk.L
open Go Dk
def checkE (nm : ByteArray → Bool) (q : Qry) : Int := errOf [(printB nm q, 1), (limB q, 12), (knownB q, 13), (placedB q, 14)]
variable [Mx]
structure Kn (nm : ByteArray → Bool) (tl tr : Cond → ByteArray) (it : ByteArray) (h : Hp) (q : Qry) : Prop where
 he : q.es.length < 1000000
 hcl : q.cs.length < 1000000
 hcs : ∀ c ∈ q.cs, c.l.length < 1000000 ∧ c.r.length < 1000000
 hn : ∀ e ∈ q.es, NameIs e.v (nm e.v)
 hn2 : ∀ c ∈ q.cs, (∀ x ∈ c.l, NameIs x.v (nm x.v)) ∧ ∀ x ∈ c.r, NameIs x.v (nm x.v)
 hT : printB nm q = true → ∀ c ∈ q.cs, TextIs c.lv h (tl c) ∧ TextIs c.rv h (tr c)
 hI : 0 ≤ q.w → ItoaIs q.w it
 hsz : eW q.es + cW tl tr q.cs + it.size + 100 < 4294967296
theorem Kn.pfx {nm : ByteArray → Bool} {tl tr : Cond → ByteArray} {it : ByteArray} {h h' : Hp} {q : Qry} (K : Kn nm tl tr it h q) (p : Pfx h h') : Kn nm tl tr it h' q :=
 ⟨K.he, K.hcl, K.hcs, K.hn, K.hn2, fun hp c hc => ⟨fun h2 p2 l2 => (K.hT hp c hc).1 h2 (p.trans p2) l2, fun h2 p2 l2 => (K.hT hp c hc).2 h2 (p.trans p2) l2⟩, K.hI, K.hsz⟩
omit [Mx] in
theorem printS_size (tl tr : Cond → ByteArray) (it : ByteArray) (q : Qry) : (printS tl tr it q).size ≠ 0 := by
 unfold printS
 split <;> simp [ByteArray.size_append, withinS, bs_size]
omit [Mx] in
theorem neq_empty (s : ByteArray) : binOp .neq .none (.p (.str s)) (.p (.str (bs []))) = some (eB (!decide (s.size = 0))) := by
 have e0 : (bs []).toList = [] := by rw [ByteArray.toList_eq]; rfl
 have e1 : (s.toList == (bs []).toList) = decide (s.size = 0) := by
  rw [e0, ByteArray.toList_eq]
  have key : s.size = s.data.toList.length := by rw [Array.length_toList]; rfl
  rw [key]
  generalize s.data.toList = l
  cases l with
  | nil => rfl
  | cons a l => rfl
 simp only [binOp, strBin, bne, e1]
 rfl
theorem clo1 {nm : ByteArray → Bool} {tl tr : Cond → ByteArray} {it : ByteArray} {h : Hp} {q : Qry} {l : List EV} (V : QryV h q l) (K : Kn nm tl tr it h q) (hl : h.lim ≤ h.objs.length) : CloOK h l n_check_Check_1 (printB nm q) := by
 intro h1 P hlt e
 refine call_loc noExt_mono (f := n_check_Check_1) rfl rfl rfl fun h0 e0 el => ?_
 have P0 : Pfx h1 h0 := .of e0
 have PP := P.trans P0
 have hl : h0.lim ≤ h0.objs.length := by omega
 have x := P0.arr e
 have K0 := K.pfx PP
 have l4 : l.length = 4 := by obtain ⟨ev, cv, rfl, -⟩ := V; rfl
 have tk : l.take 4 = l := List.take_of_length_le (by omega)
 simp [x, l4, tk]
 refine PutA_eq (print_ok (V.pfx PP) K0.he K0.hcl K0.hcs hl K0.hn K0.hn2 K0.hT K0.hI K0.hsz) ?_
 cases hb : printB nm q with
 | false => simp [Ends, neq_empty]
 | true =>
  have hne := printS_size tl tr it q
  simp [Ends, neq_empty, hne]
theorem clo2 {nm : ByteArray → Bool} {tl tr : Cond → ByteArray} {it : ByteArray} {h : Hp} {q : Qry} {l : List EV} (V : QryV h q l) (K : Kn nm tl tr it h q) (hl : h.lim ≤ h.objs.length) : CloOK h l n_check_Check_2 (limB q) := by
 intro h1 P hlt e
 refine call_loc noExt_mono (f := n_check_Check_2) rfl rfl rfl fun h0 e0 el => ?_
 have P0 : Pfx h1 h0 := .of e0
 have PP := P.trans P0
 have hl : h0.lim ≤ h0.objs.length := by omega
 have x := P0.arr e
 have K0 := K.pfx PP
 have l4 : l.length = 4 := by obtain ⟨ev, cv, rfl, -⟩ := V; rfl
 have tk : l.take 4 = l := List.take_of_length_le (by omega)
 simp [x, l4, tk]
 refine PutA_eq (limits_ok (V.pfx PP) K0.he K0.hcl) ?_
 simp [Ends]
theorem clo3 {nm : ByteArray → Bool} {tl tr : Cond → ByteArray} {it : ByteArray} {h : Hp} {q : Qry} {l : List EV} (V : QryV h q l) (K : Kn nm tl tr it h q) (hl : h.lim ≤ h.objs.length) : CloOK h l n_check_Check_3 (knownB q) := by
 intro h1 P hlt e
 refine call_loc noExt_mono (f := n_check_Check_3) rfl rfl rfl fun h0 e0 el => ?_
 have P0 : Pfx h1 h0 := .of e0
 have PP := P.trans P0
 have hl : h0.lim ≤ h0.objs.length := by omega
 have x := P0.arr e
 have K0 := K.pfx PP
 have l4 : l.length = 4 := by obtain ⟨ev, cv, rfl, -⟩ := V; rfl
 have tk : l.take 4 = l := List.take_of_length_le (by omega)
 simp [x, l4, tk]
 refine PutA_eq (known_ok (V.pfx PP) K0.he K0.hcl K0.hcs hl) ?_
 simp [Ends]
theorem clo4 {nm : ByteArray → Bool} {tl tr : Cond → ByteArray} {it : ByteArray} {h : Hp} {q : Qry} {l : List EV} (V : QryV h q l) (K : Kn nm tl tr it h q) (hl : h.lim ≤ h.objs.length) (hpos : 0 < q.es.length) : CloOK h l n_check_Check_4 (placedB q) := by
 intro h1 P hlt e
 refine call_loc noExt_mono (f := n_check_Check_4) rfl rfl rfl fun h0 e0 el => ?_
 have P0 : Pfx h1 h0 := .of e0
 have PP := P.trans P0
 have hl : h0.lim ≤ h0.objs.length := by omega
 have x := P0.arr e
 have K0 := K.pfx PP
 have l4 : l.length = 4 := by obtain ⟨ev, cv, rfl, -⟩ := V; rfl
 have tk : l.take 4 = l := List.take_of_length_le (by omega)
 simp [x, l4, tk]
 refine PutA_eq (placed_ok (V.pfx PP) hpos K0.he K0.hcl K0.hcs hl) ?_
 simp [Ends]
theorem Check_ok {nm : ByteArray → Bool} {tl tr : Cond → ByteArray} {it : ByteArray} {h : Hp} {q : Qry} {l : List EV} (V : QryV h q l) (K : Kn nm tl tr it h q) (hl : h.lim ≤ h.objs.length) :
 C0 n_check_Check [.agg l] h = some (eI (checkE nm q), h) := by
 have V0 := V
 obtain ⟨ev, cv, rfl, E, Cv, CV⟩ := V
 exact check_ok rfl (by simp [ones, E.one, Cv.one]) hl (clo1 V0 K hl) (fun _ => clo2 V0 K hl) (fun _ _ => clo3 V0 K hl) (fun hp _ _ => clo4 V0 K hl (by simp [printB] at hp; exact hp.1.1.1))
end Dk.L
