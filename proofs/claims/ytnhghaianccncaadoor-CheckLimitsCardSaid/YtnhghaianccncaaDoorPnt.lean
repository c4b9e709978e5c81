/- query.Print. -/
import Derived.Test.YtnhghaianccncaaDoorPrt
import Derived.Test.YtnhghaianccncaaDoorLk5
set_option linter.unusedVariables false
set_option linter.unusedSimpArgs false
set_option linter.unusedSectionVars false
namespace Dk.L
open Go Dk
def _root_.Dk.Hp.bldOf (h : Hp) (id : Nat) : Option ByteArray := match h.objs[id]? with
 | some (.bld (some b)) => some b
 | _ => none
theorem bld_lt {h : Hp} {id : Nat} {b : ByteArray} (e : h.bldOf id = some b) : id < h.objs.length := by
 unfold Hp.bldOf at e
 cases q : h.objs[id]? with
 | none => rw [q] at e; cases e
 | some o => exact (List.getElem?_eq_some_iff.1 q).1
theorem bld_at {h : Hp} {id : Nat} {b : ByteArray} (e : h.bldOf id = some b) : h.objs[id]? = some (.bld (some b)) := by
 unfold Hp.bldOf at e
 split at e
 · rename_i x q; cases e; exact q
 · cases e
theorem bld_fwd {h h' : Hp} {ids : List Nat} (f : Fwd ids h h') {id : Nat} {b : ByteArray} (e : h.bldOf id = some b) (hi : id ∉ ids) : h'.bldOf id = some b := by
 unfold Hp.bldOf
 rw [f.same id (bld_lt e) hi, bld_at e]
theorem bld_new {h : Hp} : (h.new (.bld (some .empty))).bldOf h.objs.length = some .empty := by simp [Hp.bldOf, Hp.new]
theorem bin_sadd (ek : EK) {a b : ByteArray} (h : a.size + b.size < 4294967296) : binOp .add ek (.p (.str a)) (.p (.str b)) = some (.p (.str (a ++ b))) := by
 simp [binOp, strBin, h]
def tyS (t : Int) : ByteArray := bs [65 + t.toNat]
def sgnS (o : Int) : ByteArray := ((([bs [61], bs [33, 61], bs [60], bs [60, 61], bs [62], bs [62, 61]] : List ByteArray)[(o - 1).toNat]?).getD .empty)
def addE (sep b : ByteArray) (e : Elem) : ByteArray :=
 let b2 := if e.not then (b ++ sep) ++ bs [33] else b ++ sep
 let b4 := if e.plus then (b2 ++ tyS e.ty) ++ bs [43] else b2 ++ tyS e.ty
 b4 ++ (bs [32] ++ e.v)
def elsS : ByteArray → ByteArray → List Elem → ByteArray
 | _, b, [] => b
 | sep, b, e :: r => elsS (bs [44, 32]) (addE sep b e) r
def addC (tl tr : Cond → ByteArray) (sep b : ByteArray) (c : Cond) : ByteArray := b ++ (((((sep ++ tl c) ++ bs [32]) ++ sgnS c.op) ++ bs [32]) ++ tr c)
def cndS (tl tr : Cond → ByteArray) : ByteArray → ByteArray → List Cond → ByteArray
 | _, b, [] => b
 | sep, b, c :: r => cndS tl tr (bs [32, 97, 110, 100, 32]) (addC tl tr sep b c) r
def seqS : ByteArray := bs [115, 101, 113, 32]
def whereS : ByteArray := bs [32, 119, 104, 101, 114, 101, 32]
def withinS : ByteArray := bs [32, 119, 105, 116, 104, 105, 110, 32]
def printS (tl tr : Cond → ByteArray) (it : ByteArray) (q : Qry) : ByteArray :=
 let b := cndS tl tr whereS (elsS seqS .empty q.es) q.cs ++ (withinS ++ it)
 if q.k then b ++ bs [32, 98, 121, 32, 107, 101, 121] else b
def eW : List Elem → Nat
 | [] => 0
 | e :: r => e.v.size + 16 + eW r
def cW (tl tr : Cond → ByteArray) : List Cond → Nat
 | [] => 0
 | c :: r => (tl c).size + (tr c).size + 16 + cW tl tr r
theorem bs_size (l : List Nat) : (bs l).size = l.length := by simp [bs, ByteArray.size]
theorem addE_size {sep b : ByteArray} (hs : sep.size ≤ 4) (e : Elem) : (addE sep b e).size ≤ b.size + (e.v.size + 16) := by
 unfold addE
 cases e.not <;> cases e.plus <;> simp [ByteArray.size_append, bs_size, tyS] <;> omega
theorem sgn_size (o : Int) : (sgnS o).size ≤ 2 := by
 unfold sgnS
 generalize (o - 1).toNat = n
 rcases n with _ | _ | _ | _ | _ | _ | n <;> simp [bs_size]
theorem addC_size {tl tr : Cond → ByteArray} {sep b : ByteArray} (hs : sep.size ≤ 7) (c : Cond) : (addC tl tr sep b c).size ≤ b.size + ((tl c).size + (tr c).size + 16) := by
 unfold addC
 have := sgn_size c.op
 simp [ByteArray.size_append, bs_size]
 omega
variable [Mx]
theorem write_ok {h : Hp} {id : Nat} {b t : ByteArray} (e : h.bldOf id = some b) (hl : h.lim ≤ id) (hs : b.size + t.size ≤ 140737488355328) :
 WA (C0 n_strings_Builder_WriteString [.bld id, .p (.str t)] h) fun _ h' => h'.bldOf id = some (b ++ t) ∧ Fwd [id] h h' := by
 refine call_W noExt_mono (f := n_strings_Builder_WriteString) rfl rfl ?_
 have key : bwrite (.bld id) (.p (.str t)) h = some (.tup [.p (.int .i64 t.size), .nili], { h with objs := h.objs.set id (.bld (some (b ++ t))) }) := by
  simp [bwrite, bld_at e, hl, hs]
 have lt := bld_lt e
 simp [bwD, key]
 refine ⟨by simp, _, rfl, ?_, (Fwd.refl _ _).setObj _ (.inl (by simp))⟩
 simp [Hp.bldOf, Hp.back, lt]
theorem string_ok {h : Hp} {id : Nat} {b : ByteArray} (e : h.bldOf id = some b) (hl : h.lim ≤ id) (hs : b.size ≠ 0) :
 WA (C0 n_strings_Builder_String [.bld id] h) fun v h' => v = .p (.str b) ∧ Fwd [id] h h' := by
 refine call_W noExt_mono (f := n_strings_Builder_String) rfl rfl ?_
 have key : btext (.bld id) h = some (.p (.str b), { h with objs := h.objs.set id (.bld none) }) := by
  simp [btext, bld_at e, hl, hs]
 have lt := bld_lt e
 simp [bsD, key]
 exact ⟨by simp, _, rfl, rfl, (Fwd.refl _ _).setObj _ (.inl (by simp))⟩
omit [Mx] in
theorem ty_sls {t : Int} (h0 : 0 ≤ t) (h8 : t < 8) : sliceStr (.p (.str (bs [65, 66, 67, 68, 69, 70, 71, 72]))) (some (eI t)) (some (eI (t + 1))) = some (.p (.str (tyS t))) := by
 have ht : t = 0 ∨ t = 1 ∨ t = 2 ∨ t = 3 ∨ t = 4 ∨ t = 5 ∨ t = 6 ∨ t = 7 := by omega
 rcases ht with rfl | rfl | rfl | rfl | rfl | rfl | rfl | rfl <;> rfl
omit [Mx] in
theorem sgn_ok {o : Int} (h1 : 1 ≤ o) (h6 : o ≤ 6) : ∃ q, ixpAt 6 1 (.cp [.str (bs [61]), .str (bs [33, 61]), .str (bs [60]), .str (bs [60, 61]), .str (bs [62]), .str (bs [62, 61])] 0) (.p (.int .i64 (o - 1))) = some q ∧ ∀ h, loadAt false 1 q h = some (.p (.str (sgnS o))) := by
 have ht : o = 1 ∨ o = 2 ∨ o = 3 ∨ o = 4 ∨ o = 5 ∨ o = 6 := by omega
 rcases ht with rfl | rfl | rfl | rfl | rfl | rfl <;> exact ⟨_, rfl, fun h => rfl⟩
def TextIs (v : EV) (h : Hp) (s : ByteArray) : Prop := ∀ h', Pfx h h' → h'.lim ≤ h'.objs.length → C0 n_query_text [v] h' = some (.p (.str s), h')
def ItoaIs (w : Int) (s : ByteArray) : Prop := ∀ h, C0 n_strconv_Itoa [eI w] h = some (.p (.str s), h)
structure PnS (h : Hp) (X0 : Hp) (B D : Nat) (b : ByteArray) (f : Fr) (h' : Hp) : Prop where
 fw : Fwd [] h h'
 fx : Fwd [D] X0 h'
 g1 : f.get 1 = .ptr B 0 0 0
 g3 : f.get 3 = .bld D
 bd : h'.bldOf D = some b
structure PnI (q : Qry) (h X0 : Hp) (B D : Nat) (ev : EV) (N : Nat) (z : Nat) (f : Fr) (h' : Hp) : Prop where
 g13 : f.get 13 = ev
 g14 : f.get 14 = eI q.es.length
 ex : ∃ (i : Nat) (b sep : ByteArray), PnS h X0 B D b f h' ∧ i ≤ q.es.length ∧ z = q.es.length - i ∧ f.get 15 = eI i ∧ f.get 4 = .p (.str sep) ∧ sep.size ≤ 4 ∧ b.size + eW (q.es.drop i) ≤ N ∧ elsS seqS .empty q.es = elsS sep b (q.es.drop i)
structure PnJ (tl tr : Cond → ByteArray) (q : Qry) (h X0 : Hp) (B D : Nat) (cv : EV) (N : Nat) (z : Nat) (f : Fr) (h' : Hp) : Prop where
 g40 : f.get 40 = cv
 g41 : f.get 41 = eI q.cs.length
 ex : ∃ (i : Nat) (b sep : ByteArray), PnS h X0 B D b f h' ∧ i ≤ q.cs.length ∧ z = q.cs.length - i ∧ f.get 42 = eI i ∧ f.get 4 = .p (.str sep) ∧ sep.size ≤ 7 ∧ b.size + cW tl tr (q.cs.drop i) ≤ N ∧ cndS tl tr whereS (elsS seqS .empty q.es) q.cs = cndS tl tr sep b (q.cs.drop i)
theorem print_ok {nm : ByteArray → Bool} {h : Hp} {q : Qry} {l : List EV} {tl tr : Cond → ByteArray} {it : ByteArray} (V : QryV h q l) (he : q.es.length < 1000000) (hcl : q.cs.length < 1000000) (hcs : ∀ c ∈ q.cs, c.l.length < 1000000 ∧ c.r.length < 1000000) (hl : h.lim ≤ h.objs.length)
 (hn : ∀ e ∈ q.es, NameIs e.v (nm e.v)) (hn2 : ∀ c ∈ q.cs, (∀ x ∈ c.l, NameIs x.v (nm x.v)) ∧ ∀ x ∈ c.r, NameIs x.v (nm x.v))
 (hT : printB nm q = true → ∀ c ∈ q.cs, TextIs c.lv h (tl c) ∧ TextIs c.rv h (tr c)) (hI : 0 ≤ q.w → ItoaIs q.w it) (hsz : eW q.es + cW tl tr q.cs + it.size + 100 < 4294967296) :
 C0 n_query_Print [.agg l] h = some (.p (.str (if printB nm q = true then printS tl tr it q else .empty)), h) := by
 have V0 := V
 obtain ⟨ev, cv, rfl, E, Cv, CV⟩ := V
 refine call_loc noExt_mono (f := n_query_Print) rfl rfl rfl fun h9 e9 el => ?_
 have P0 : Pfx h h9 := .of e9
 have hl : h9.lim ≤ h9.objs.length := by omega
 simp [ones, E.one, Cv.one, E.cells, Cv.cells]
 obtain ⟨X, eX⟩ : ∃ X, X = h9.new (.cells ⟨0, 4, true, 0, [[ev, cv, eI q.w, eB q.k]]⟩) := ⟨_, rfl⟩
 have FX : Fwd [] h9 X := by rw [eX]; exact (Fwd.refl _ _).new _
 have nX : X.objs.length = h9.objs.length + 1 := by rw [eX]; simp
 have x0 : X.arr h9.objs.length 0 = some ⟨0, 4, true, 0, [[ev, cv, eI q.w, eB q.k]]⟩ := by rw [eX]; simp
 have PX := P0.trans (pfx FX)
 have lX := FX.limlen hl
 rw [← eX]
 clear eX
 refine PutA_eq (printable_ok (V0.pfx PX) he hcl hcs hn hn2) ?_
 cases hb : printB nm q with
 | false => simp [Ends]; rfl
 | true =>
  simp [x0, nl (arr_lt x0), E.len, E.cells]
  simp [printB] at hb
  obtain ⟨⟨⟨hb1, hb2⟩, hb3⟩, hb4⟩ := hb
  have FX1 : Fwd [] X (X.new (.bld (some .empty))) := (Fwd.refl _ _).new _
  have bX := bld_new (h := X)
  generalize hX1 : X.new (.bld (some .empty)) = X1 at *
  have x1 := FX1.arr x0 (by simp)
  have nX1 : X1.objs.length = X.objs.length + 1 := by rw [← hX1]; simp
  have l1 : X1.lim = h9.lim := FX1.lim.trans FX.lim
  have F91 : Fwd [] h9 X1 := FX.trans FX1
  have w3 : ∀ i : Nat, i < 1000000 → IntKind.i64.wrap ((i : Int) + 1) = (i : Int) + 1 := fun i hi => wrap64 (by omega) (by omega)
  refine Run_meet (k1 := [_, _]) (fun f h2 => ∃ b, PnS h9 X1 h9.objs.length X.objs.length b f h2 ∧ b = elsS seqS .empty q.es ∧ b.size ≤ eW q.es + 10) ?_ ?_
  · refine Run_loop (PnI q h9 X1 h9.objs.length X.objs.length ev (eW q.es + 10)) (n := q.es.length) ⟨by simp, by simp, 0, .empty, seqS, ⟨F91, Fwd.refl _ _, by simp, by simp, bX⟩, by omega, rfl, by simp, by simp; rfl, by decide, by simp, by simp⟩ ?_
    rintro z f2 h2 ⟨g13, g14, i, b, sep, ⟨F2, F12, g1, g3, bd⟩, hi, hz, k15, k4, hsep, hN, hs⟩
    have lm : h2.lim ≤ h2.objs.length := F2.limlen hl
    have l2 : h2.lim = h9.lim := F2.lim
    have n2 := F12.len
    by_cases hin : i < q.es.length
    · obtain ⟨e, hx⟩ : ∃ e, q.es[i]? = some e := ⟨_, List.getElem?_eq_getElem hin⟩
      have hd : q.es.drop i = e :: q.es.drop (i + 1) := by
       rw [List.drop_eq_getElem_cons hin]
       rw [List.getElem?_eq_getElem hin] at hx
       cases hx
       rfl
      rw [hd, elsS] at hs
      rw [hd, eW] at hN
      obtain ⟨a, a1, a2⟩ := E.get (i := i) (el := e.cells) (by rw [List.getElem?_map, hx]; rfl) rfl
      have a2 := a2 h2 (P0.trans (pfx F2))
      have hte := hb3 e (List.mem_of_getElem? hx)
      simp [elemB] at hte
      have w1 : IntKind.i64.wrap (e.ty + 1) = e.ty + 1 := wrap64 (by omega) (by omega)
      have w3 := w3 i (by omega)
      have tyX := ty_sls hte.1.2 hte.2
      have zv : (bs [32]).size + e.v.size < 4294967296 := by simp [bs_size]; omega
      have hasz := addE_size (b := b) hsep e
      obtain ⟨Y, eY⟩ : ∃ Y, Y = (h2.new (.cells ⟨0, 4, true, 0, [[eI 0, .p (.str (bs [])), eB false, eB false]]⟩)).setArr h2.objs.length ⟨0, 4, true, 0, [[eI e.ty, .p (.str e.v), eB e.plus, eB e.not]]⟩ := ⟨_, rfl⟩
      have FY : Fwd [] h2 Y := by rw [eY]; exact ((Fwd.refl _ _).new _).set _ (.inr (by omega))
      have xY : Y.arr h2.objs.length 0 = some ⟨0, 4, true, 0, [[eI e.ty, .p (.str e.v), eB e.plus, eB e.not]]⟩ := by rw [eY]; simp [Hp.arr_set]
      have bY := bld_fwd FY bd (by simp)
      have fY : Fwd [X.objs.length] h2 Y := FY.mono (by simp)
      have hne : ¬ h2.objs.length = X.objs.length := by omega
      have fin : ∀ (f : Fr) (h3 : Hp) (r : ByteArray), Fwd [X.objs.length] h2 h3 → h3.bldOf X.objs.length = some r → f.get 13 = ev → f.get 14 = eI q.es.length → f.get 1 = .ptr h9.objs.length 0 0 0 → f.get 3 = .bld X.objs.length → f.get 15 = eI ((i : Int) + 1) → f.get 4 = .p (.str (bs [44, 32])) → r = addE sep b e → ∃ m, m < z ∧ PnI q h9 X1 h9.objs.length X.objs.length ev (eW q.es + 10) m f h3 :=
       fun f h3 r F3 hbd e1 e2 e3 e4 e5 e6 er => ⟨q.es.length - (i + 1), by omega, e1, e2, i + 1, addE sep b e, bs [44, 32], ⟨F2.trans' F3 (fun y hy => .inr (by simp at hy; omega)), F12.trans F3, e3, e4, er ▸ hbd⟩, by omega, rfl, e5, e6, by simp [bs_size], by omega, hs⟩
      simp [g1, g3, g13, g14, k15, k4, hin, a1, a2, Elem.cells, ones, lm]
      rw [← eY]
      cases hNt : e.not with
      | false =>
       cases hPl : e.plus with
       | false =>
        rw [hNt, hPl] at xY
        have z0 : (b).size + (sep).size ≤ 140737488355328 := by first | omega | (simp [ByteArray.size_append, bs_size, tyS]; omega)
        refine PutA_of (write_ok bY (by have := fY.lim; omega) z0) ?_
        rintro _ k0 ⟨bd0, f0⟩
        have fw0 := fY.trans f0
        have xx0 := f0.arr xY (by simp; omega)
        simp [xx0, nl (arr_lt xx0), hNt, hPl, tyX, w1, bin_sadd _ zv]
        have z1 : ((b ++ sep)).size + ((tyS e.ty)).size ≤ 140737488355328 := by first | omega | (simp [ByteArray.size_append, bs_size, tyS]; omega)
        refine PutA_of (write_ok bd0 (by have := fw0.lim; omega) z1) ?_
        rintro _ k1 ⟨bd1, f1⟩
        have fw1 := fw0.trans f1
        have xx1 := f1.arr xx0 (by simp; omega)
        simp [xx1, nl (arr_lt xx1), hNt, hPl, tyX, w1, bin_sadd _ zv]
        have z2 : (((b ++ sep) ++ (tyS e.ty))).size + ((bs [32] ++ e.v)).size ≤ 140737488355328 := by first | omega | (simp [ByteArray.size_append, bs_size, tyS]; omega)
        refine PutA_of (write_ok bd1 (by have := fw1.lim; omega) z2) ?_
        rintro _ k2 ⟨bd2, f2⟩
        have fw2 := fw1.trans f2
        have xx2 := f2.arr xx1 (by simp; omega)
        simp [k15, w3]
        exact fin _ _ _ fw2 bd2 (by simp) (by simp) (by simp) (by simp) (by simp) (by simp) (by simp [addE, hNt, hPl])
       | true =>
        rw [hNt, hPl] at xY
        have z0 : (b).size + (sep).size ≤ 140737488355328 := by first | omega | (simp [ByteArray.size_append, bs_size, tyS]; omega)
        refine PutA_of (write_ok bY (by have := fY.lim; omega) z0) ?_
        rintro _ k0 ⟨bd0, f0⟩
        have fw0 := fY.trans f0
        have xx0 := f0.arr xY (by simp; omega)
        simp [xx0, nl (arr_lt xx0), hNt, hPl, tyX, w1, bin_sadd _ zv]
        have z1 : ((b ++ sep)).size + ((tyS e.ty)).size ≤ 140737488355328 := by first | omega | (simp [ByteArray.size_append, bs_size, tyS]; omega)
        refine PutA_of (write_ok bd0 (by have := fw0.lim; omega) z1) ?_
        rintro _ k1 ⟨bd1, f1⟩
        have fw1 := fw0.trans f1
        have xx1 := f1.arr xx0 (by simp; omega)
        simp [xx1, nl (arr_lt xx1), hNt, hPl, tyX, w1, bin_sadd _ zv]
        have z2 : (((b ++ sep) ++ (tyS e.ty))).size + ((bs [43])).size ≤ 140737488355328 := by first | omega | (simp [ByteArray.size_append, bs_size, tyS]; omega)
        refine PutA_of (write_ok bd1 (by have := fw1.lim; omega) z2) ?_
        rintro _ k2 ⟨bd2, f2⟩
        have fw2 := fw1.trans f2
        have xx2 := f2.arr xx1 (by simp; omega)
        simp [xx2, nl (arr_lt xx2), hNt, hPl, tyX, w1, bin_sadd _ zv]
        have z3 : ((((b ++ sep) ++ (tyS e.ty)) ++ (bs [43]))).size + ((bs [32] ++ e.v)).size ≤ 140737488355328 := by first | omega | (simp [ByteArray.size_append, bs_size, tyS]; omega)
        refine PutA_of (write_ok bd2 (by have := fw2.lim; omega) z3) ?_
        rintro _ k3 ⟨bd3, f3⟩
        have fw3 := fw2.trans f3
        have xx3 := f3.arr xx2 (by simp; omega)
        simp [k15, w3]
        exact fin _ _ _ fw3 bd3 (by simp) (by simp) (by simp) (by simp) (by simp) (by simp) (by simp [addE, hNt, hPl])
      | true =>
       cases hPl : e.plus with
       | false =>
        rw [hNt, hPl] at xY
        have z0 : (b).size + (sep).size ≤ 140737488355328 := by first | omega | (simp [ByteArray.size_append, bs_size, tyS]; omega)
        refine PutA_of (write_ok bY (by have := fY.lim; omega) z0) ?_
        rintro _ k0 ⟨bd0, f0⟩
        have fw0 := fY.trans f0
        have xx0 := f0.arr xY (by simp; omega)
        simp [xx0, nl (arr_lt xx0), hNt, hPl, tyX, w1, bin_sadd _ zv]
        have z1 : ((b ++ sep)).size + ((bs [33])).size ≤ 140737488355328 := by first | omega | (simp [ByteArray.size_append, bs_size, tyS]; omega)
        refine PutA_of (write_ok bd0 (by have := fw0.lim; omega) z1) ?_
        rintro _ k1 ⟨bd1, f1⟩
        have fw1 := fw0.trans f1
        have xx1 := f1.arr xx0 (by simp; omega)
        simp [xx1, nl (arr_lt xx1), hNt, hPl, tyX, w1, bin_sadd _ zv]
        have z2 : (((b ++ sep) ++ (bs [33]))).size + ((tyS e.ty)).size ≤ 140737488355328 := by first | omega | (simp [ByteArray.size_append, bs_size, tyS]; omega)
        refine PutA_of (write_ok bd1 (by have := fw1.lim; omega) z2) ?_
        rintro _ k2 ⟨bd2, f2⟩
        have fw2 := fw1.trans f2
        have xx2 := f2.arr xx1 (by simp; omega)
        simp [xx2, nl (arr_lt xx2), hNt, hPl, tyX, w1, bin_sadd _ zv]
        have z3 : ((((b ++ sep) ++ (bs [33])) ++ (tyS e.ty))).size + ((bs [32] ++ e.v)).size ≤ 140737488355328 := by first | omega | (simp [ByteArray.size_append, bs_size, tyS]; omega)
        refine PutA_of (write_ok bd2 (by have := fw2.lim; omega) z3) ?_
        rintro _ k3 ⟨bd3, f3⟩
        have fw3 := fw2.trans f3
        have xx3 := f3.arr xx2 (by simp; omega)
        simp [k15, w3]
        exact fin _ _ _ fw3 bd3 (by simp) (by simp) (by simp) (by simp) (by simp) (by simp) (by simp [addE, hNt, hPl])
       | true =>
        rw [hNt, hPl] at xY
        have z0 : (b).size + (sep).size ≤ 140737488355328 := by first | omega | (simp [ByteArray.size_append, bs_size, tyS]; omega)
        refine PutA_of (write_ok bY (by have := fY.lim; omega) z0) ?_
        rintro _ k0 ⟨bd0, f0⟩
        have fw0 := fY.trans f0
        have xx0 := f0.arr xY (by simp; omega)
        simp [xx0, nl (arr_lt xx0), hNt, hPl, tyX, w1, bin_sadd _ zv]
        have z1 : ((b ++ sep)).size + ((bs [33])).size ≤ 140737488355328 := by first | omega | (simp [ByteArray.size_append, bs_size, tyS]; omega)
        refine PutA_of (write_ok bd0 (by have := fw0.lim; omega) z1) ?_
        rintro _ k1 ⟨bd1, f1⟩
        have fw1 := fw0.trans f1
        have xx1 := f1.arr xx0 (by simp; omega)
        simp [xx1, nl (arr_lt xx1), hNt, hPl, tyX, w1, bin_sadd _ zv]
        have z2 : (((b ++ sep) ++ (bs [33]))).size + ((tyS e.ty)).size ≤ 140737488355328 := by first | omega | (simp [ByteArray.size_append, bs_size, tyS]; omega)
        refine PutA_of (write_ok bd1 (by have := fw1.lim; omega) z2) ?_
        rintro _ k2 ⟨bd2, f2⟩
        have fw2 := fw1.trans f2
        have xx2 := f2.arr xx1 (by simp; omega)
        simp [xx2, nl (arr_lt xx2), hNt, hPl, tyX, w1, bin_sadd _ zv]
        have z3 : ((((b ++ sep) ++ (bs [33])) ++ (tyS e.ty))).size + ((bs [43])).size ≤ 140737488355328 := by first | omega | (simp [ByteArray.size_append, bs_size, tyS]; omega)
        refine PutA_of (write_ok bd2 (by have := fw2.lim; omega) z3) ?_
        rintro _ k3 ⟨bd3, f3⟩
        have fw3 := fw2.trans f3
        have xx3 := f3.arr xx2 (by simp; omega)
        simp [xx3, nl (arr_lt xx3), hNt, hPl, tyX, w1, bin_sadd _ zv]
        have z4 : (((((b ++ sep) ++ (bs [33])) ++ (tyS e.ty)) ++ (bs [43]))).size + ((bs [32] ++ e.v)).size ≤ 140737488355328 := by first | omega | (simp [ByteArray.size_append, bs_size, tyS]; omega)
        refine PutA_of (write_ok bd3 (by have := fw3.lim; omega) z4) ?_
        rintro _ k4 ⟨bd4, f4⟩
        have fw4 := fw3.trans f4
        have xx4 := f4.arr xx3 (by simp; omega)
        simp [k15, w3]
        exact fin _ _ _ fw4 bd4 (by simp) (by simp) (by simp) (by simp) (by simp) (by simp) (by simp [addE, hNt, hPl])
    · have hd : q.es.drop i = [] := List.drop_eq_nil_of_le (by omega)
      rw [hd, elsS] at hs
      simp [g1, g3, g13, g14, k15, k4, hin, JoinQ_normal]
      exact ⟨b, ⟨F2, F12, by simp [g1], by simp [g3], bd⟩, hs.symm, by omega⟩
  rintro f2 h2 ⟨b, ⟨F2, F12, g1, g3, bd⟩, hbe, hbs⟩
  have x2 := F12.arr x1 (by simp; omega)
  simp [g1, x2, nl (arr_lt x2), Cv.len, Cv.cells]
  refine Run_meet (k1 := [_, _]) (fun f h3 => ∃ b, PnS h9 X1 h9.objs.length X.objs.length b f h3 ∧ b = cndS tl tr whereS (elsS seqS .empty q.es) q.cs ∧ b.size ≤ eW q.es + cW tl tr q.cs + 10) ?_ ?_
  · refine Run_loop (PnJ tl tr q h9 X1 h9.objs.length X.objs.length cv (eW q.es + cW tl tr q.cs + 10)) (n := q.cs.length) ⟨by simp, by simp, 0, b, whereS, ⟨F2, F12, by simp [g1], by simp [g3], bd⟩, by omega, rfl, by simp, by simp; rfl, by decide, by simp; omega, by simp [hbe]⟩ ?_
    rintro z f3 h3 ⟨g40, g41, i, b, sep, ⟨F3, F13, g1, g3, bd⟩, hi, hz, k42, k4, hsep, hN, hs⟩
    have lm : h3.lim ≤ h3.objs.length := F3.limlen hl
    have l3 : h3.lim = h9.lim := F3.lim
    have n3 := F13.len
    by_cases hin : i < q.cs.length
    · obtain ⟨c, hc⟩ : ∃ c, q.cs[i]? = some c := ⟨_, List.getElem?_eq_getElem hin⟩
      have hm := List.mem_of_getElem? hc
      have hd : q.cs.drop i = c :: q.cs.drop (i + 1) := by
       rw [List.drop_eq_getElem_cons hin]
       rw [List.getElem?_eq_getElem hin] at hc
       cases hc
       rfl
      rw [hd, cndS] at hs
      rw [hd, cW] at hN
      obtain ⟨a, a1, a2⟩ := Cv.get (i := i) (el := c.cells) (by rw [List.getElem?_map, hc]; rfl) rfl
      have P3 := P0.trans (pfx F3)
      have a2 := a2 h3 P3
      have V3 := (CV c hm).pfx P3
      have hcb := hb4 c hm
      simp [condB] at hcb
      have w1 : IntKind.i64.wrap (c.op - 1) = c.op - 1 := wrap64 (by omega) (by omega)
      have w3 := w3 i (by omega)
      obtain ⟨T1, T2⟩ := hT (by simp [printB, hb1, hb2]; exact ⟨hb3, hb4⟩) c hm
      obtain ⟨d, d1, d2⟩ := sgn_ok hcb.1.1.1 hcb.1.1.2
      have sg2 := sgn_size c.op
      simp [g1, g3, g40, g41, k42, k4, hin, a1, a2, Cond.cells, ones, lm, V3.l.one, V3.r.one, V3.l.cells, V3.r.cells, w1, d1, d2]
      obtain ⟨Y, eY⟩ : ∃ Y, Y = (h3.new (.cells ⟨0, 3, true, 0, [[eI 0, .full [], .full []]]⟩)).setArr h3.objs.length ⟨0, 3, true, 0, [[eI c.op, c.lv, c.rv]]⟩ := ⟨_, rfl⟩
      have FY : Fwd [] h3 Y := by rw [eY]; exact ((Fwd.refl _ _).new _).set _ (.inr (by omega))
      have xY : Y.arr h3.objs.length 0 = some ⟨0, 3, true, 0, [[eI c.op, c.lv, c.rv]]⟩ := by rw [eY]; simp [Hp.arr_set]
      have bY := bld_fwd FY bd (by simp)
      have fY : Fwd [X.objs.length] h3 Y := FY.mono (by simp)
      have lY := FY.limlen lm
      have lY' := FY.lim
      rw [← eY]
      have t1 := T1 Y (P3.trans (pfx FY)) lY
      have t2 := T2 Y (P3.trans (pfx FY)) lY
      refine PutC_of (K := fun v h' => v = .p (.str (tl c)) ∧ h' = Y) ⟨_, _, t1, rfl, rfl⟩ ?_
      rintro v1 k1 ⟨ev1, ek1⟩
      rw [ev1, ek1]
      have vr := V3.r.eqb
      have y1 : sep.size + (tl c).size < 4294967296 := by omega
      have y2 : (sep ++ tl c).size + (bs [32]).size < 4294967296 := by simp [ByteArray.size_append, bs_size]; omega
      have y3 : ((sep ++ tl c) ++ bs [32]).size + (sgnS c.op).size < 4294967296 := by simp [ByteArray.size_append, bs_size]; omega
      have y4 : (((sep ++ tl c) ++ bs [32]) ++ sgnS c.op).size + (bs [32]).size < 4294967296 := by simp [ByteArray.size_append, bs_size]; omega
      have y5 : ((((sep ++ tl c) ++ bs [32]) ++ sgnS c.op) ++ bs [32]).size + (tr c).size < 4294967296 := by simp [ByteArray.size_append, bs_size]; omega
      simp [xY, nl (arr_lt xY), d2, vr, V3.r.one, bin_sadd _ y1, bin_sadd _ y2, bin_sadd _ y3, bin_sadd _ y4]
      refine PutC_of (K := fun v h' => v = .p (.str (tr c)) ∧ h' = Y) ⟨_, _, t2, rfl, rfl⟩ ?_
      rintro v2 k2 ⟨ev2, ek2⟩
      rw [ev2, ek2]
      simp [xY, nl (arr_lt xY), d2, bin_sadd _ y5]
      have hasz := addC_size (tl := tl) (tr := tr) (b := b) hsep c
      have hasz2 : (addC tl tr sep b c).size = b.size + ((((((sep ++ tl c) ++ bs [32]) ++ sgnS c.op) ++ bs [32]) ++ tr c)).size := by simp [addC]
      refine PutA_of (write_ok bY (by omega) (by omega)) ?_
      rintro _ h5 ⟨bd5, F5⟩
      simp [k42, w3]
      exact ⟨q.cs.length - (i + 1), by omega, by simp, by simp, i + 1, addC tl tr sep b c, bs [32, 97, 110, 100, 32], ⟨F3.trans' (fY.trans F5) (fun y hy => .inr (by simp at hy; omega)), F13.trans (fY.trans F5), by simp, by simp, bd5⟩, by omega, rfl, by simp, by simp, by simp [bs_size], by omega, hs⟩
    · have hd : q.cs.drop i = [] := List.drop_eq_nil_of_le (by omega)
      rw [hd, cndS] at hs
      simp [g1, g3, g40, g41, k42, k4, hin, JoinQ_normal]
      exact ⟨b, ⟨F3, F13, by simp [g1], by simp [g3], bd⟩, hs.symm, by omega⟩
  rintro f3 h3 ⟨b, ⟨F3, F13, g1, g3, bd⟩, hbe, hbs⟩
  have x3 := F13.arr x1 (by simp; omega)
  have l3 : h3.lim = h9.lim := F3.lim
  have n3 := F13.len
  simp [g1, x3, nl (arr_lt x3)]
  refine PutA_eq (hI hb2 h3) ?_
  have zi : (bs [32, 119, 105, 116, 104, 105, 110, 32]).size + it.size < 4294967296 := by simp [bs_size]; omega
  simp [bin_sadd _ zi, g3]
  refine PutA_of (write_ok bd (by omega) (by simp [ByteArray.size_append, bs_size]; omega)) ?_
  rintro _ h4 ⟨bd4, F4⟩
  have x4 := F4.arr x3 (by simp; omega)
  have l4 : h4.lim = h3.lim := F4.lim
  have nz : ∀ (x y : ByteArray), ((x ++ (bs [32, 119, 105, 116, 104, 105, 110, 32] ++ y))).size ≠ 0 := fun x y => by simp [ByteArray.size_append, bs_size]
  simp [g1, x4, nl (arr_lt x4), g3]
  cases hk : q.k with
  | false =>
   simp [g3]
   refine PutA_of (string_ok bd4 (by omega) (nz _ _)) ?_
   rintro _ h5 ⟨rfl, F5⟩
   simp [Ends, printS, hk, hbe, withinS]
  | true =>
   simp [g3]
   refine PutA_of (write_ok bd4 (by omega) (by simp [ByteArray.size_append, bs_size]; omega)) ?_
   rintro _ h5 ⟨bd5, F5⟩
   have l5 : h5.lim = h4.lim := F5.lim
   simp [g3]
   refine PutA_of (string_ok bd5 (by omega) (by simp [ByteArray.size_append, bs_size])) ?_
   rintro _ h6 ⟨rfl, F6⟩
   simp [Ends, printS, hk, hbe, withinS]
end Dk.L
