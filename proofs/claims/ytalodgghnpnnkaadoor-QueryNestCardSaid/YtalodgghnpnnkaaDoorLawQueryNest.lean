/- The law 'QueryNest' returns true for every input, and every argument reads as it did. No condition. -/
import Derived.Test.YtalodgghnpnnkaaDoorBind
import Derived.Test.YtalodgghnpnnkaaDoorNest
import Derived.Test.YtalodgghnpnnkaaDoorCards
import Derived.Test.YtalodgghnpnnkaaDoorTie
import Derived.LaidLaws
import Derived.LaidHandle
import Derived.SevenTiedAt
import Derived.Shelf.Vars
namespace Go.Proofs.YtalodgghnpnnkaaDoor.queryNest
open Go Dk Dk.M Go.ChangeShapes Go.WideShapes Go.ChangeAt Go.RowKit
theorem own : ownKnob Tryd.prog.godebug = none := by kernel_rfl
theorem laid : laidOutB Tryd.prog = true := by kernel_rfl
theorem reads : (Tryd.f3.params.toList.all fun t => Tryd.prog.readableRec t && decide (t < Tryd.prog.types.size)) = true := by kernel_rfl
theorem kinds : mapO (ltOf Tryd.prog 40) Tryd.f3.params.toList = some [([.int .i64], false), ([.int .i64], false)] := by kernel_rfl
theorem result : Tryd.f3.resultTypes = #[4] := by kernel_rfl
def lay (v : Array Value) : Obj → Obj
 | .cells _ t frozen => .cells v t frozen
 | o => o
def v_laid_math_bits_deBruijn32tab : Array Value := #[.int .u8 0, .int .u8 1, .int .u8 28, .int .u8 2, .int .u8 29, .int .u8 14, .int .u8 24, .int .u8 3, .int .u8 30, .int .u8 22, .int .u8 20, .int .u8 15, .int .u8 25, .int .u8 17, .int .u8 4, .int .u8 8, .int .u8 31, .int .u8 27, .int .u8 13, .int .u8 23, .int .u8 21, .int .u8 19, .int .u8 16, .int .u8 7, .int .u8 26, .int .u8 12, .int .u8 18, .int .u8 6, .int .u8 11, .int .u8 5, .int .u8 10, .int .u8 9]
def v_laid_math_bits_deBruijn64tab : Array Value := #[.int .u8 0, .int .u8 1, .int .u8 56, .int .u8 2, .int .u8 57, .int .u8 49, .int .u8 28, .int .u8 3, .int .u8 61, .int .u8 58, .int .u8 42, .int .u8 50, .int .u8 38, .int .u8 29, .int .u8 17, .int .u8 4, .int .u8 62, .int .u8 47, .int .u8 59, .int .u8 36, .int .u8 45, .int .u8 43, .int .u8 51, .int .u8 22, .int .u8 53, .int .u8 39, .int .u8 33, .int .u8 30, .int .u8 24, .int .u8 18, .int .u8 12, .int .u8 5, .int .u8 63, .int .u8 55, .int .u8 48, .int .u8 27, .int .u8 60, .int .u8 41, .int .u8 37, .int .u8 16, .int .u8 46, .int .u8 35, .int .u8 44, .int .u8 21, .int .u8 52, .int .u8 32, .int .u8 23, .int .u8 11, .int .u8 54, .int .u8 26, .int .u8 40, .int .u8 15, .int .u8 34, .int .u8 20, .int .u8 31, .int .u8 10, .int .u8 25, .int .u8 14, .int .u8 19, .int .u8 9, .int .u8 13, .int .u8 8, .int .u8 7, .int .u8 6]
def v_laid_internal_strconv_uint64pow10 : Array Value := #[.int .u64 1, .int .u64 10, .int .u64 100, .int .u64 1000, .int .u64 10000, .int .u64 100000, .int .u64 1000000, .int .u64 10000000, .int .u64 100000000, .int .u64 1000000000, .int .u64 10000000000, .int .u64 100000000000, .int .u64 1000000000000, .int .u64 10000000000000, .int .u64 100000000000000, .int .u64 1000000000000000, .int .u64 10000000000000000, .int .u64 100000000000000000, .int .u64 1000000000000000000, .int .u64 10000000000000000000]
def v_laid_sibyl_query_signs : Array Value := #[.string ⟨#[61]⟩, .string ⟨#[33, 61]⟩, .string ⟨#[60]⟩, .string ⟨#[60, 61]⟩, .string ⟨#[62]⟩, .string ⟨#[62, 61]⟩]
noncomputable def laidWorld (os : Os) : World :=
 let w0 := World.holding Tryd.prog os ⟨#[], #[], []⟩
 { w0 with heap := ((((w0.heap.modify 3 (lay v_laid_math_bits_deBruijn32tab)).modify 4 (lay v_laid_math_bits_deBruijn64tab)).modify 2 (lay v_laid_internal_strconv_uint64pow10)).modify 0 (lay v_laid_sibyl_query_signs)) }
set_option maxRecDepth 100000 in
theorem laidWorld_met (os : Os) (args : Array Value) : laidMetH Tryd.prog Rows.queryNestRow.laid ((laidWorld os).forCall (fun _ _ => 0) ⟨#[], args, []⟩).memory :=
 laidMetH_of_parts (laidMet_of_run' 100 (by kernel_rfl) (by kernel_rfl)) (by kernel_rfl)
def signs : List (List UInt8) := [[61], [33, 61], [60], [60, 61], [62], [62, 61]]
set_option maxRecDepth 100000 in
theorem laidOf {W : World} (hL : laidMetH Tryd.prog Rows.queryNestRow.laid W) : W.var? Tryd.prog "sibyl/query.signs" = some (signs.map fun z => Value.string ⟨z.toArray⟩).toArray := by
 have hL : laidMet Tryd.prog Rows.queryNestRow.laid W := hL
 obtain ⟨ps, h, _⟩ := hL
 obtain ⟨q1, h⟩ := laid_tail h
 obtain ⟨q2, h⟩ := laid_tail h
 obtain ⟨q3, h⟩ := laid_tail h
 exact laid_strs (zs := signs) (g := 0) (t := 67) (e := 9) (n := 6) (by kernel_rfl) (by kernel_rfl) Tryd.underlying67 Tryd.underlying9 (by kernel_rfl) (by kernel_rfl) h
theorem known {W : World} (hL : laidMetH Tryd.prog Rows.queryNestRow.laid W) {m : Int} (hm : W.cell? ⟨1, 0, none⟩ = some (.int .i64 m)) : ∀ n cs, (@Globs.tab (@globs ⟨m⟩) n) = some cs → RPcs (rdW W) n 0 cs := by
 intro n cs h
 match n, h with
 | 0, h =>
  have e : (signs.map fun z => PD.str ⟨z.toArray⟩) = cs := Option.some.inj h
  rw [← e]
  exact strs_known signs 0 fun j z hz => by
   rw [Nat.zero_add, World.var?_cell (show Tryd.prog.globalNamed "sibyl/query.signs" = some 0 by kernel_rfl) (laidOf hL) j]
   simp [hz]
 | 1, h =>
  have e : [PD.int .i64 m] = cs := Option.some.inj h
  rw [← e]
  exact int_known hm
 | _ + 2, h => cases h
set_option maxRecDepth 100000 in
theorem lifted (os : Os) (started : os.Started) (H : Type) (enc : TypeId × Value → H) :
 ReturnsInHanded {} Tryd.checked os 3 .any (fun w args => (Rows.queryNestSpec.pre enc Tryd.prog Tryd.f3 Rows.queryNestRow.domain false w args ∧ laidMetH Tryd.prog Rows.queryNestRow.laid w) ∧ sizedMet enc Tryd.prog Tryd.f3 (OpenSpec.ofChange Rows.queryNestSpec) false w args) (Rows.queryNestSpec.post enc Tryd.prog Tryd.f3 false true false false) := by
 refine change_and_shaped (C := Tryd.checked) (X := fun w _ => laidMetH Tryd.prog Rows.queryNestRow.laid w) (fun _ _ _ hh h => h.of_heap hh) own started (by kernel_rfl) Tryd.func3
  (ChangeSpec.witness_at (enc := enc) (C := Tryd.checked) (os := os) (X := fun w _ => laidMetH Tryd.prog Rows.queryNestRow.laid w) false (laidWorld os) #[.int .i64 0, .int .i64 0] 8 rfl (by kernel_rfl) (by kernel_rfl) (by kernel_rfl) (by kernel_rfl) (by kernel_rfl) (laidWorld_met os _)) ?_
 intro W base args ds gs before hval hW _ _ hL hsh _
 obtain ⟨m, hm⟩ := Go.Proofs.cell_of_shapedOpen_int (g := 1) (t := 3) (zero := #[.int .i64 0]) (k := .i64) hsh (of_decide_eq_true (by kernel_rfl)) (by kernel_rfl) rfl (by kernel_rfl) (by kernel_rfl) Tryd.underlying3
 letI : Mx := ⟨m⟩
 have hgl : ∀ n cs, Globs.tab n = some cs → RPcs (rdW W) n 0 cs := known hL hm
 obtain ⟨hlen, hcalls⟩ := law_calls (base := base) (enc := enc) bind.callOK Tryd.func3 (by kernel_rfl) (by kernel_rfl) kinds queryNest_D hW.choose_spec.choose_spec.1 hval hgl
 refine hcalls.mono fun e W' ⟨he, hb⟩ => ?_
 subst he
 refine ⟨_, rfl, law_post laid reads result Tryd.underlying4 rfl hW (fun hg => ?_) hb⟩
 subst hg
 rw [List.append_nil]
 match ds, hlen with
 | [_, _], _ => rfl
theorem over : Rows.queryNestRow.holds Tryd.pinned (OpenSpec.ofChange Rows.queryNestSpec) :=
 OpenClaim.holds_of_wide 3 Tryd.f3 rfl rfl rfl rfl rfl rfl rfl ⟨rfl, rfl, rfl, rfl, rfl⟩ rfl rfl rfl rfl rfl (by kernel_rfl) Tryd.func3 (by kernel_rfl)
  (of_decide_eq_true (by kernel_rfl)) (by unfold Func.isWrapper; first | (rw [if_pos (by decide +kernel)]; kernel_rfl) | (rw [if_neg (by decide +kernel)]; exact ⟨rfl, rfl⟩))
  (fun os started H enc _ => lifted os started H enc)
theorem proved : Rows.QueryNestCardSaid :=
 Claim7.holds_tied_plain_at .later [] [.data, .data, .data, .widerDeep] true (true, "c573bca753043dff11e868b8941b4817c67ca005652e9b78753d09ad7b43e976") true
  over (fun _ h => by cases h) (by kernel_rfl) (fun _ h => by cases h) queryNest_row_tie rfl ⟨rfl, rfl⟩ (by kernel_rfl) rfl
  (fun f fn hf hfn => by
   obtain rfl : f = 3 := Option.some.inj ((show Tryd.prog.funcNamed "sibyl/sibyllaw03.QueryNest" = some 3 by kernel_rfl).symm.trans hf) |>.symm
   obtain rfl : fn = Tryd.f3 := (Option.some.inj (Tryd.func3.symm.trans hfn)).symm
   refine ⟨by kernel_rfl, fun j t ht => ?_⟩
   have hp : Tryd.f3.params = #[3, 3] := by kernel_rfl
   rw [hp] at ht
   exact match j, ht with
    | 0, ht => (by have q : t = 3 := (by simpa using ht.symm); subst q; exact (show Tryd.prog.wantsStandIn 3 = false by kernel_rfl))
    | 1, ht => (by have q : t = 3 := (by simpa using ht.symm); subst q; exact (show Tryd.prog.wantsStandIn 3 = false by kernel_rfl))
    | _ + 2, ht => (by simp at ht))
  (by kernel_rfl)
#print axioms proved
end Go.Proofs.YtalodgghnpnnkaaDoor.queryNest
