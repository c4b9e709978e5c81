/- check.placed. -/
import Derived.Test.YtnhghaianccncaaDoorKno
import Derived.Test.YtnhghaianccncaaDoorLim
set_option linter.unusedVariables false
set_option linter.unusedSimpArgs false
set_option linter.unusedSectionVars false
namespace Dk.L
open Go Dk
def plusAt (q : Qry) (s : ByteArray) : Bool := match q.es[atD (atM q) s]? with
 | some e => e.plus
 | none => false
def notAt (q : Qry) (s : ByteArray) : Bool := match q.es[atD (atM q) s]? with
 | some e => e.not
 | none => false
def badC (q : Qry) (x : Code) : Bool := decide (x.op = 8) && !plusAt q x.v
def notsB (q : Qry) (last : Nat) : Nat → List ByteArray → Bool
 | _, [] => true
 | k, s :: r => if notAt q s = true then (if 1 < k + 1 ∨ atD (atM q) s ≠ last then false else notsB q last (k + 1) r) else notsB q last k r
def elP (n : Nat) (i : Nat) (e : Elem) : Bool := !(e.not && (e.plus || decide (i = 0) || decide (i + 1 = n)))
def elsP (n : Nat) : Nat → List Elem → Bool
 | _, [] => true
 | i, e :: r => elP n i e && elsP n (i + 1) r
def cndP (q : Qry) (c : Cond) : Bool := !(c.l ++ c.r).any (badC q) && notsB q (lastN (atM q) c) 0 (nmsOf c)
def placedB (q : Qry) : Bool := elsP q.es.length 0 q.es && q.cs.all (cndP q)
variable [Mx]
theorem bad_ok {h : Hp} {q : Qry} {l : List EV} {x : Code} {B A id : Nat} (V : QryV h q l) (h0 : 0 < q.es.length) (hB : h.arr B 0 = some ⟨0, 4, true, 0, [l]⟩) (hA : h.arr A 0 = some ⟨0, 1, false, 0, [[.map id]]⟩) (hm : h.mapOf id = some (ent (atM q))) :
 C0 n_check_placed_1 [.agg x.cells, .ptr B 0 0 0, .ptr A 0 0 0] h = some (eB (badC q x), h) := by
 obtain ⟨ev, cv, rfl, E, Cv, CV⟩ := V
 refine call_loc noExt_mono (f := n_check_placed_1) rfl rfl rfl fun h1 e0 el => ?_
 have P0 : Pfx h h1 := .of e0
 simp [Code.cells, ones]
 by_cases h8 : x.op = 8
 · have hB := P0.arr hB
   have hA := P0.arr hA
   have nB : ¬ B = h1.objs.length := by have := arr_lt hB; omega
   have nA : ¬ A = h1.objs.length := by have := arr_lt hA; omega
   obtain ⟨X, eX⟩ : ∃ X, X = h1.new (.cells ⟨0, 5, true, 0, [[eI x.op, eI x.n, .p (.str x.v), eI x.field, eI x.pos]]⟩) := ⟨_, rfl⟩
   have FX : Fwd [] h1 X := by rw [eX]; exact (Fwd.refl _ _).new _
   have xX : X.arr h1.objs.length 0 = some ⟨0, 5, true, 0, [[eI x.op, eI x.n, .p (.str x.v), eI x.field, eI x.pos]]⟩ := by rw [eX]; simp
   rw [← eX]
   clear eX
   have hB := FX.arr hB (by simp)
   have hA := FX.arr hA (by simp)
   have mX := FX.map (P0.map hm) (by simp)
   have gg := ent_get mX x.v (eI 0)
   have gg : mapGet .str (eI 0) (.map id) (.p (.str x.v)) X = some (eI (atD (atM q) x.v), (findS x.v (atM q)).isSome) := by
    rw [gg]; unfold atD; cases findS x.v (atM q) <;> rfl
   obtain ⟨e, he⟩ : ∃ e, q.es[atD (atM q) x.v]? = some e := ⟨_, List.getElem?_eq_getElem (atD_lt h0 _)⟩
   obtain ⟨a, a', a1, a2, a3⟩ := E.fld (i := atD (atM q) x.v) (el := e.cells) (by rw [List.getElem?_map, he]; rfl) rfl (j := 2) rfl rfl
   have a3 := a3 X (P0.trans (pfx FX))
   have hp : plusAt q x.v = e.plus := by simp only [plusAt, he]
   simp [a1, a2, a3, h8, hB, hA, nl (arr_lt hB), nl (arr_lt hA), xX, nl (arr_lt xX), gg, E.cells, Cv.cells, Ends, badC, hp]
 · simp [h8, Ends, badC]
structure PaS (q : Qry) (h h1 : Hp) (B A : Nat) (f : Fr) (h' : Hp) : Prop where
 fw : Fwd [] h h'
 fw1 : Fwd [] h1 h'
 g1 : f.get 1 = .ptr B 0 0 0
 g3 : f.get 3 = .ptr A 0 0 0
structure PaI (q : Qry) (h h1 : Hp) (B A : Nat) (ev : EV) (z : Nat) (f : Fr) (h' : Hp) : Prop where
 st : PaS q h h1 B A f h'
 g15 : f.get 15 = ev
 g16 : f.get 16 = eI q.es.length
 ex : ∃ i : Nat, i ≤ q.es.length ∧ z = q.es.length - i ∧ f.get 17 = eI i ∧ elsP q.es.length 0 q.es = elsP q.es.length i (q.es.drop i)
structure PaJ (q : Qry) (h h1 : Hp) (B A : Nat) (cv : EV) (z : Nat) (f : Fr) (h' : Hp) : Prop where
 st : PaS q h h1 B A f h'
 g42 : f.get 42 = cv
 g43 : f.get 43 = eI q.cs.length
 ex : ∃ i : Nat, i ≤ q.cs.length ∧ z = q.cs.length - i ∧ f.get 44 = eI i ∧ (q.cs.take i).all (cndP q) = true
structure PaK (q : Qry) (h h1 : Hp) (B A : Nat) (cv : EV) (i : Nat) (c : Cond) (w : EV) (z : Nat) (f : Fr) (h' : Hp) : Prop where
 st : PaS q h h1 B A f h'
 g42 : f.get 42 = cv
 g43 : f.get 43 = eI q.cs.length
 g44 : f.get 44 = eI i
 g8 : f.get 8 = eI (lastN (atM q) c)
 g60 : f.get 60 = w
 g61 : f.get 61 = eI (nmsOf c).length
 ex : ∃ j k : Nat, j ≤ (nmsOf c).length ∧ z = (nmsOf c).length - j ∧ f.get 62 = eI j ∧ f.get 9 = eI k ∧ k ≤ j ∧ notsB q (lastN (atM q) c) 0 (nmsOf c) = notsB q (lastN (atM q) c) k ((nmsOf c).drop j)
theorem placed_ok {h : Hp} {q : Qry} {l : List EV} (V : QryV h q l) (h0 : 0 < q.es.length) (he : q.es.length < 1000000) (hcl : q.cs.length < 1000000) (hcs : ∀ c ∈ q.cs, c.l.length < 1000000 ∧ c.r.length < 1000000) (hl : h.lim ≤ h.objs.length) :
 C0 n_check_placed [.agg l] h = some (eB (placedB q), h) := by
 have V0 := V
 obtain ⟨ev, cv, rfl, E, Cv, CV⟩ := V
 refine call_loc noExt_mono (f := n_check_placed) rfl rfl rfl fun h9 e9 el => ?_
 have P0 : Pfx h h9 := .of e9
 have hl : h9.lim ≤ h9.objs.length := by omega
 simp [ones, E.one, Cv.one, E.cells, Cv.cells]
 obtain ⟨X, eX⟩ : ∃ X, X = h9.new (.cells ⟨0, 4, true, 0, [[ev, cv, eI q.w, eB q.k]]⟩) := ⟨_, rfl⟩
 have FX : Fwd [] h9 X := by rw [eX]; exact (Fwd.refl _ _).new _
 have nX : X.objs.length = h9.objs.length + 1 := by rw [eX]; simp
 have x0 : X.arr h9.objs.length 0 = some ⟨0, 4, true, 0, [[ev, cv, eI q.w, eB q.k]]⟩ := by rw [eX]; simp
 have PX := P0.trans (pfx FX)
 have lX := FX.limlen hl
 rw [← eX]
 clear eX
 refine PutA_of (places_ok (V0.pfx PX) he lX) ?_
 rintro _ h1 ⟨id, rfl, F1, m1⟩
 have l1 := F1.limlen lX
 have x1 := F1.arr x0 (by simp)
 have hAB : ¬ h9.objs.length = h1.objs.length := by have := arr_lt x1; omega
 simp [l1, hAB, x1, nl (arr_lt x1), E.len, E.cells]
 obtain ⟨Y, eY⟩ : ∃ Y, Y = (h1.new (.cells ⟨0, 1, false, 0, [[.nilmap]]⟩)).setArr h1.objs.length ⟨0, 1, false, 0, [[.map id]]⟩ := ⟨_, rfl⟩
 have FY : Fwd [] h1 Y := by rw [eY]; exact ((Fwd.refl _ _).new _).set _ (.inr (by omega))
 have xA : Y.arr h1.objs.length 0 = some ⟨0, 1, false, 0, [[.map id]]⟩ := by rw [eY]; simp [Hp.arr_set]
 have xB := FY.arr x1 (by simp)
 have mY := FY.map m1 (by simp)
 rw [← eY]
 clear eY
 have F9 : Fwd [] h9 Y := (FX.trans F1).trans FY
 have PY := P0.trans (pfx F9)
 have lY := F9.limlen hl
 generalize h1.objs.length = A at *
 refine Run_meet (k1 := [_, _]) (fun f h2 => PaS q h9 Y h9.objs.length A f h2 ∧ elsP q.es.length 0 q.es = true) ?_ ?_
 · refine Run_loop (PaI q h9 Y h9.objs.length A ev) (n := q.es.length) ⟨⟨F9, Fwd.refl _ _, by simp, by simp⟩, by simp, by simp, 0, by omega, rfl, by simp, by simp⟩ ?_
   rintro z f2 h2 ⟨⟨F2, F12, g1, g3⟩, g15, g16, i, hi, hz, g17, hs⟩
   have lm : h2.lim ≤ h2.objs.length := F2.limlen hl
   have P2 := P0.trans (pfx F2)
   by_cases hin : i < q.es.length
   · obtain ⟨e, hx⟩ : ∃ e, q.es[i]? = some e := ⟨_, List.getElem?_eq_getElem hin⟩
     have hd : q.es.drop i = e :: q.es.drop (i + 1) := by
      rw [List.drop_eq_getElem_cons hin]
      rw [List.getElem?_eq_getElem hin] at hx
      cases hx
      rfl
     rw [hd, elsP] at hs
     obtain ⟨a, a1, a2⟩ := E.get (i := i) (el := e.cells) (by rw [List.getElem?_map, hx]; rfl) rfl
     have a2 := a2 h2 P2
     have xB2 := F12.arr xB (by simp)
     have nB : ¬ h9.objs.length = h2.objs.length := by have := arr_lt xB2; omega
     have w3 : IntKind.i64.wrap ((i : Int) + 1) = (i : Int) + 1 := wrap64 (by omega) (by omega)
     have w4 : IntKind.i64.wrap ((q.es.length : Int) - 1) = (q.es.length : Int) - 1 := wrap64 (by omega) (by omega)
     have FZ : Fwd [] h2 ((h2.new (.cells ⟨0, 4, true, 0, [[eI 0, .p (.str (bs [])), eB false, eB false]]⟩)).setArr h2.objs.length ⟨0, 4, true, 0, [[eI e.ty, .p (.str e.v), eB e.plus, eB e.not]]⟩) := ((Fwd.refl _ _).new _).set _ (.inr (by omega))
     have fin : ∀ f : Fr, f.get 1 = .ptr h9.objs.length 0 0 0 → f.get 3 = .ptr A 0 0 0 → f.get 15 = ev → f.get 16 = eI q.es.length → f.get 17 = eI ((i : Int) + 1) → elP q.es.length i e = true → ∃ m, m < z ∧ PaI q h9 Y h9.objs.length A ev m f ((h2.new (.cells ⟨0, 4, true, 0, [[eI 0, .p (.str (bs [])), eB false, eB false]]⟩)).setArr h2.objs.length ⟨0, 4, true, 0, [[eI e.ty, .p (.str e.v), eB e.plus, eB e.not]]⟩) :=
      fun f e1 e2 e3 e4 e5 e6 => ⟨q.es.length - (i + 1), by omega, ⟨F2.trans FZ, F12.trans FZ, e1, e2⟩, e3, e4, i + 1, by omega, rfl, e5, by rw [hs, e6]; rfl⟩
     cases hN : e.not with
     | false =>
      simp [g1, g3, g15, g16, g17, hin, a1, a2, Elem.cells, ones, lm, hN, w3]
      rw [hN] at fin
      exact fin _ (by simp [g1]) (by simp [g3]) (by simp [g15]) (by simp [g16]) (by simp) (by simp [elP, hN])
     | true =>
      rw [hN] at fin
      cases hP : e.plus with
      | true =>
       simp [g1, g3, g15, g16, g17, hin, a1, a2, Elem.cells, ones, lm, hN, hP, w3, JoinQ, Ends]
       simp [placedB, hs, elP, hN, hP]
      | false =>
       rw [hP] at fin
       by_cases hi0 : i = 0
       · have hq : (i = 0) = True := eq_true hi0
         simp [hq, g1, g3, g15, g16, g17, hin, a1, a2, Elem.cells, ones, lm, hN, hP, w3, JoinQ, Ends]
         simp [placedB, hs, elP, hN, hP, hi0]
       · by_cases hin1 : i + 1 = q.es.length
         · have : (i : Int) = (q.es.length : Int) - 1 := by omega
           simp [g1, g3, g15, g16, g17, hin, a1, a2, Elem.cells, ones, lm, hN, hP, w3, JoinQ, Ends, hi0, nB, xB2, nl (arr_lt xB2), E.len, E.cells, w4, ← this, show IntKind.i64.wrap (i : Int) = i from wrap64 (by omega) (by omega)]
           simp [placedB, hs, elP, hN, hP, hin1]
         · have : ¬ (i : Int) = (q.es.length : Int) - 1 := by omega
           simp [g1, g3, g15, g16, g17, hin, a1, a2, Elem.cells, ones, lm, hN, hP, w3, hi0, nB, xB2, nl (arr_lt xB2), E.len, E.cells, w4, this]
           exact fin _ (by simp [g1]) (by simp [g3]) (by simp [g15]) (by simp [g16]) (by simp) (by simp [elP, hN, hP, hi0, hin1])
   · have hd : q.es.drop i = [] := List.drop_eq_nil_of_le (by omega)
     rw [hd, elsP] at hs
     simp [g1, g3, g15, g16, g17, hin, JoinQ_normal]
     exact ⟨⟨F2, F12, by simp [g1], by simp [g3]⟩, hs⟩
 rintro f2 h2 ⟨⟨F2, F12, g1, g3⟩, hE⟩
 have xB2 := F12.arr xB (by simp)
 simp [g1, xB2, nl (arr_lt xB2), Cv.len, Cv.cells]
 refine Run_loop (PaJ q h9 Y h9.objs.length A cv) (n := q.cs.length) ⟨⟨F2, F12, by simp [g1], by simp [g3]⟩, by simp, by simp, 0, by omega, rfl, by simp, by simp⟩ ?_
 rintro z f3 h3 ⟨⟨F3, F13, g1, g3⟩, g42, g43, i, hi, hz, g44, ha⟩
 have lm : h3.lim ≤ h3.objs.length := F3.limlen hl
 have P3 := P0.trans (pfx F3)
 have m3 := F13.map mY (by simp)
 have xA3 := F13.arr xA (by simp)
 have xB3 := F13.arr xB (by simp)
 by_cases hin : i < q.cs.length
 · obtain ⟨c, hc⟩ : ∃ c, q.cs[i]? = some c := ⟨_, List.getElem?_eq_getElem hin⟩
   have hm := List.mem_of_getElem? hc
   obtain ⟨a, a1, a2⟩ := Cv.get (i := i) (el := c.cells) (by rw [List.getElem?_map, hc]; rfl) rfl
   have a2 := a2 h3 P3
   have V2 := (CV c hm).pfx P3
   have hta := all_take (p := cndP q) hc
   have hcc := hcs c hm
   have nl2 := nmsOf_len c
   simp [g1, g3, g42, g43, g44, hin, a1, a2, Cond.cells, ones, lm, V2.l.one, V2.r.one, V2.l.cells, V2.r.cells]
   obtain ⟨Z, eZ⟩ : ∃ Z, Z = ((h3.new (.cells ⟨0, 3, true, 0, [[eI 0, .full [], .full []]]⟩)).setArr h3.objs.length ⟨0, 3, true, 0, [[eI c.op, c.lv, c.rv]]⟩).new (.cells ⟨0, 1, false, 0, [[c.lv], [c.rv]]⟩) := ⟨_, rfl⟩
   have FZ : Fwd [] h3 Z := by rw [eZ]; exact (((Fwd.refl _ _).new _).set _ (.inr (by omega))).new _
   have xC : Z.arr h3.objs.length 0 = some ⟨0, 3, true, 0, [[eI c.op, c.lv, c.rv]]⟩ := by rw [eZ]; simp [Hp.arr_set]
   have xL : Z.arr (h3.objs.length + 1) 0 = some ⟨0, 1, false, 0, [[c.lv], [c.rv]]⟩ := by rw [eZ]; simp [Hp.arr_set]
   rw [← eZ]
   clear eZ
   have lZ := FZ.limlen lm
   have VZ := V2.pfx (pfx FZ)
   have mZ := FZ.map m3 (by simp)
   have xAZ := FZ.arr xA3 (by simp)
   have xBZ := FZ.arr xB3 (by simp)
   have AV : View Z 1 (.arr (h3.objs.length + 1) 0 1 0 2 true) [[c.lv], [c.rv]] := .arr (off := 0) xL (by simp)
   obtain ⟨w, hw, ec⟩ := concat_ok AV VZ.l VZ.r hcc lZ
   have W := hw.view (codes_sized (c.l ++ c.r)) Z
   rw [codes_toEV] at W
   refine PutA_eq ec ?_
   simp
   have QZ : QryV Z q [ev, cv, eI q.w, eB q.k] := V0.pfx (P3.trans (pfx FZ))
   have cont := contains_D (h := Z) (v := w) (fv := .fn (.func n_check_placed_1) [] [.ptr h9.objs.length 0 0 0, .ptr A 0 0 0]) (us := []) (cs := [.ptr h9.objs.length 0 0 0, .ptr A 0 0 0]) (p := fun x => match x with | [.p (.int _ a), _, .p (.str s), _, _] => decide (a = 8) && !plusAt q s | _ => false) rfl W (by simp; omega) (by intro x hx; obtain ⟨y, _, rfl⟩ := List.mem_map.1 hx; rfl) lZ (by
    intro x hx h' p' l'
    obtain ⟨y, _, rfl⟩ := List.mem_map.1 hx
    exact bad_ok (QZ.pfx p') h0 (p'.arr xBZ) (p'.arr xAZ) (p'.map mZ))
   have hany : ((c.l ++ c.r).map Code.cells).any (fun x => match x with | [.p (.int _ a), _, .p (.str s), _, _] => decide (a = 8) && !plusAt q s | _ => false) = (c.l ++ c.r).any (badC q) := by
    rw [List.any_map]; rfl
   rw [hany] at cont
   refine PutA_eq cont ?_
   cases hbad : (c.l ++ c.r).any (badC q) with
   | true =>
    simp [Ends, placedB]
    exact fun _ => ⟨c, hm, by simp [cndP, hbad]⟩
   | false =>
    simp [xAZ, nl (arr_lt xAZ), xC, nl (arr_lt xC)]
    refine PutA_eq (last_ok VZ hcc lZ mZ) ?_
    simp [xC, nl (arr_lt xC)]
    obtain ⟨w2, hw2, ec2⟩ := Names_ok VZ hcc lZ
    have W2 := fun h => hw2.view (strs_sized (nmsOf c)) h
    rw [strs_toEV] at W2
    refine PutA_eq ec2 ?_
    simp [(W2 Z).len]
    have w3 : ∀ i : Nat, i < 3000000 → IntKind.i64.wrap ((i : Int) + 1) = (i : Int) + 1 := fun i hi => wrap64 (by omega) (by omega)
    refine Run_loop (PaK q h9 Y h9.objs.length A cv i c w2) (n := (nmsOf c).length) ⟨⟨F3.trans FZ, F13.trans FZ, by simp [g1], by simp [g3]⟩, by simp, by simp, by simp, by simp, by simp, by simp, 0, 0, by omega, rfl, by simp, by simp, by omega, by simp⟩ ?_
    rintro y f4 h4 ⟨⟨F4, F14, g1, g3⟩, g42, g43, g44, g8, g60, g61, j, k, hj, hy, g62, g9, hkj, hs⟩
    have m4 := F14.map mY (by simp)
    have xA4 := F14.arr xA (by simp)
    have xB4 := F14.arr xB (by simp)
    by_cases hjn : j < (nmsOf c).length
    · obtain ⟨s, hx⟩ : ∃ s, (nmsOf c)[j]? = some s := ⟨_, List.getElem?_eq_getElem hjn⟩
      have hd : (nmsOf c).drop j = s :: (nmsOf c).drop (j + 1) := by
       rw [List.drop_eq_getElem_cons hjn]
       rw [List.getElem?_eq_getElem hjn] at hx
       cases hx
       rfl
      rw [hd, notsB] at hs
      obtain ⟨b, b1, b2⟩ := (W2 h4).get1 (i := j) (e := .p (.str s)) (by rw [List.getElem?_map, hx]; rfl)
      have b2 := b2 h4 (Pfx.refl _)
      have gg := ent_get m4 s (eI 0)
      have gg : mapGet .str (eI 0) (.map id) (.p (.str s)) h4 = some (eI (atD (atM q) s), (findS s (atM q)).isSome) := by
       rw [gg]; unfold atD; cases findS s (atM q) <;> rfl
      obtain ⟨e, hee⟩ : ∃ e, q.es[atD (atM q) s]? = some e := ⟨_, List.getElem?_eq_getElem (atD_lt h0 _)⟩
      obtain ⟨d, d', d1, d2, d3⟩ := E.fld (i := atD (atM q) s) (el := e.cells) (by rw [List.getElem?_map, hee]; rfl) rfl (j := 3) rfl rfl
      have d3 := d3 h4 (P0.trans (pfx F4))
      have hN : notAt q s = e.not := by simp only [notAt, hee]
      rw [hN] at hs
      cases hn : e.not with
      | false =>
       rw [hn] at hs
       simp [g1, g3, g42, g43, g44, g8, g9, g60, g61, g62, hjn, b1, b2, xB4, nl (arr_lt xB4), xA4, nl (arr_lt xA4), gg, d1, d2, d3, E.cells, hn, w3 j (by omega)]
       exact ⟨(nmsOf c).length - (j + 1), by omega, ⟨F4, F14, by simp [g1], by simp [g3]⟩, by simp [g42], by simp [g43], by simp [g44], by simp [g8], by simp [g60], by simp [g61], j + 1, k, by omega, rfl, by simp, by simp [g9], by omega, by simpa using hs⟩
      | true =>
       rw [hn] at hs
       simp [g1, g3, g42, g43, g44, g8, g9, g60, g61, g62, hjn, b1, b2, xB4, nl (arr_lt xB4), xA4, nl (arr_lt xA4), gg, d1, d2, d3, E.cells, hn, w3 k (by omega)]
       have bad : notsB q (lastN (atM q) c) 0 (nmsOf c) = false → placedB q = false := fun e => by
        have : cndP q c = false := by rw [cndP, e]; simp
        rw [placedB, List.all_eq_false.2 ⟨c, hm, by simp [this]⟩]
        simp
       by_cases hk1 : 1 < k + 1
       · have hk1' : (1 : Int) < (k : Int) + 1 := by omega
         rw [if_pos rfl, if_pos (.inl hk1)] at hs
         simp [hk1', Ends, bad hs]
       · have hk1' : ¬ (1 : Int) < (k : Int) + 1 := by omega
         by_cases hla : atD (atM q) s = lastN (atM q) c
         · rw [if_pos rfl, if_neg (by simp [hk1, hla])] at hs
           simp [hk1', xA4, nl (arr_lt xA4), gg, hla, g62, w3 j (by omega)]
           exact ⟨(nmsOf c).length - (j + 1), by omega, ⟨F4, F14, by simp, by simp⟩, by simp, by simp, by simp, by simp, by simp, by simp, j + 1, k + 1, by omega, rfl, by simp, by simp, by omega, hs⟩
         · rw [if_pos rfl, if_pos (.inr hla)] at hs
           have hla' : ¬ (atD (atM q) s : Int) = (lastN (atM q) c : Int) := by omega
           simp [hk1', xA4, nl (arr_lt xA4), gg, hla', Ends, bad hs]
    · have hd : (nmsOf c).drop j = [] := List.drop_eq_nil_of_le (by omega)
      rw [hd, notsB] at hs
      simp [g1, g3, g42, g43, g44, g8, g9, g60, g61, g62, hjn, w3 i (by omega)]
      exact ⟨q.cs.length - (i + 1), by omega, ⟨F4, F14, by simp [g1], by simp [g3]⟩, by simp [g42], by simp [g43], i + 1, by omega, rfl, by simp, by rw [hta, ha, cndP, hbad, hs]; rfl⟩
 · have : q.cs.take i = q.cs := List.take_of_length_le (by omega)
   rw [this] at ha
   simp [g1, g3, g42, g43, g44, hin, Ends, placedB, ha, hE]
end Dk.L
