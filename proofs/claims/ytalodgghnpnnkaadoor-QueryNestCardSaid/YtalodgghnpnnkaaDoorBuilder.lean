/- strings.Builder's functions, walked: what adds a text, and what reads the whole out. No condition. -/
import Derived.Test.YtalodgghnpnnkaaDoorQk5
import Derived.Test.YtalodgghnpnnkaaDoorProg
import Derived.Shelf.RegionOpenPlain
import Derived.Lib.Walk
import Derived.Lib.MakeNoZero
import Derived.WalkKit
import Derived.Laws.Externs
import Derived.Laws.IdiomCopy
import Derived.Laws.BitsLemmas
import Derived.KernelRfl
set_option linter.unusedVariables false
set_option linter.unusedSimpArgs false
set_option linter.unusedSectionVars false
namespace Dk.M.bld
open Go Dk Go.RowKit Go.Proofs
theorem infoB : ∃ j, Tryd.prog.info? 56 = some j ∧ j.size = 2 := Option.map_eq_some_iff.1 (show (Tryd.prog.info? 56).map (·.size) = some 2 by kernel_rfl)
theorem liesB : liesAt Tryd.prog Tryd.prog.depth 56 (2 / Tryd.prog.cellsOf 56) 0 56 1 = true := by kernel_rfl
theorem infoC : ∃ i, Tryd.prog.info? 5 = some i ∧ i.zero = some (.int .u8 0) ∧ i.size = 1 ∧ i.bytes = 1 := by
 obtain ⟨i, hi, h⟩ := Option.map_eq_some_iff.1 (show (Tryd.prog.info? 5).map (fun i => (i.zero, i.size, i.bytes)) = some (some (.int .u8 0), 1, 1) by kernel_rfl)
 simp only [Prod.mk.injEq] at h
 exact ⟨i, hi, h⟩
set_option maxHeartbeats 1000000 in
set_option maxRecDepth 100000 in
theorem copy_used (b : Nat) (w : World) (h0 : w.cell? ⟨b, 0, none⟩ = some (.pointer (some ⟨b, 0, none⟩))) :
 Calls Tryd.prog 32 #[.pointer (some ⟨b, 0, none⟩)] w fun e w' => e = .returned (.tuple #[]) ∧ w' = w := by
 obtain ⟨j, hj, _⟩ := infoB
 go_enter Tryd.func32, Tryd.ntmps32
 go_wp2
 rw [Lib.run_neq_ptr_same w _ Tryd.underlying53 hj]
 go_wp2
 go_end0
 exact ⟨rfl, rfl⟩
set_option maxHeartbeats 1000000 in
set_option maxRecDepth 100000 in
theorem copy_fresh (b : Nat) (w : World) (h0 : w.cell? ⟨b, 0, none⟩ = some (.pointer none)) (hsh : w.shape? b = some (56, 2)) (hfz : w.frozen? ⟨b, 0, none⟩ = false) :
 Calls Tryd.prog 32 #[.pointer (some ⟨b, 0, none⟩)] w fun e w' => e = .returned (.tuple #[]) ∧ w' = w.setCell ⟨b, 0, none⟩ (.pointer (some ⟨b, 0, none⟩)) := by
 obtain ⟨j, hj, hjs⟩ := infoB
 go_enter Tryd.func32, Tryd.ntmps32
 go_wp2
 rw [Lib.run_to_unsafe w ⟨b, 0, none⟩ Tryd.underlying53 Tryd.underlying106 hj (by rw [hjs]; decide) hsh (Nat.zero_lt_succ 1)]
 simp only [Result.andThen]
 rw [Oper.upon_value]
 go_wp2
 rw [run_callFunc_extern Tryd.func50 (by kernel_rfl) (by kernel_rfl) (by kernel_rfl) (e := Extern.AbiNoEscape.same) (by kernel_rfl)]
 rw [Lib.run_noEscape]
 simp only [Result.andThen]
 rw [Oper.upon_value]
 go_wp2
 rw [Lib.run_from_unsafe w ⟨b, 0, none⟩ Tryd.underlying106 Tryd.underlying53 hj hsh liesB]
 simp only [Result.andThen]
 rw [Oper.upon_value]
 go_wp2
 go_end0
 exact ⟨rfl, rfl⟩
theorem copy_check (b : Nat) (p v : Value) (w : World) (hp : p = .pointer none ∨ p = .pointer (some ⟨b, 0, none⟩)) (hb : w.heap[b]? = some (.cells #[p, v] 56 (0, 0))) :
 Calls Tryd.prog 32 #[.pointer (some ⟨b, 0, none⟩)] w fun e w' => e = .returned (.tuple #[]) ∧ (w' = w ∨ w' = w.setCell ⟨b, 0, none⟩ (.pointer (some ⟨b, 0, none⟩))) ∧ w'.heap[b]? = some (.cells #[.pointer (some ⟨b, 0, none⟩), v] 56 (0, 0)) := by
 rcases hp with rfl | rfl
 · refine (copy_fresh b w (by rw [Lib.cell_of_heap hb]; rfl) (by simp [World.shape?, hb]) (Lib.frozen_of_heap hb 0)).mono ?_
   rintro e w' ⟨rfl, rfl⟩
   exact ⟨rfl, .inr rfl, by rw [setCell_heap w b 0 _ hb]; rfl⟩
 · refine (copy_used b w (by rw [Lib.cell_of_heap hb]; rfl)).mono ?_
   rintro e w' ⟨rfl, rfl⟩
   exact ⟨rfl, .inl rfl, hb⟩
set_option maxHeartbeats 2000000 in
set_option maxRecDepth 100000 in
theorem write : BwIs Tryd.prog 18 56 5 := by
 intro b p v n bs s w hp hb hown hlen hne
 obtain ⟨i0, hi, hz0, hz1, hz2⟩ := infoC
 go_enter Tryd.func18, Tryd.ntmps18
 go_wp2_with (go_at_call 32; refine (copy_check b p v _ hp hb).mono ?_)
 rintro e w1 ⟨rfl, hw1, hb1⟩
 have hown1 : w1.ownsRow 0 5 1 v n bs := by
  rcases hw1 with rfl | rfl
  · exact hown
  · exact ownsRow_other hown fun c q => (Chg.setCell w b 0 _).other c (own_lt hown q) (fun e => hne (e ▸ q))
 have c0 : w1.cell? ⟨b, 0, none⟩ = some (.pointer (some ⟨b, 0, none⟩)) := by rw [Lib.cell_of_heap hb1]; rfl
 have c1 : w1.cell? ⟨b, 1, none⟩ = some v := by rw [Lib.cell_of_heap hb1]; rfl
 go_wp2_with (at_builtin; refine wpList_append2 _ rfl _ _ 54 9 rfl 5 i0 Tryd.underlying54 Tryd.underlying9 hi hz0 hz1 hz2 v n bs rfl hown1 s rfl hlen ?_)
 intro v' w2 hown' hcase
 have hlt : b < w1.heap.size := (Array.getElem?_eq_some_iff.1 hb1).1
 have hb2 : w2.heap[b]? = some (.cells #[.pointer (some ⟨b, 0, none⟩), v] 56 (0, 0)) := by
  rcases hcase with ⟨_, hg⟩ | ⟨c, _, _, hg⟩
  · rw [hg.block b hlt (fun e => hne e.symm)]; exact hb1
  · rw [hg.block b hlt (by simp)]; exact hb1
 have d0 : w2.cell? ⟨b, 0, none⟩ = some (.pointer (some ⟨b, 0, none⟩)) := by rw [Lib.cell_of_heap hb2]; rfl
 have d1 : w2.cell? ⟨b, 1, none⟩ = some v := by rw [Lib.cell_of_heap hb2]; rfl
 have f1 : w2.frozen? ⟨b, 1, none⟩ = false := Lib.frozen_of_heap hb2 1
 obtain ⟨ao, n', cap, rfl⟩ : ∃ ao n' cap, v' = .slice ao n' cap := by
  rcases hown'.2 with ⟨hv, _⟩ | ⟨g, cap, cur, hv, _⟩
  · exact ⟨_, _, _, hv⟩
  · exact ⟨_, _, _, hv⟩
 go_wp2
 go_ret2
 exact ⟨rfl, w1, w2, _, hw1, hb1, hown', hcase, rfl⟩
set_option maxHeartbeats 1000000 in
set_option maxRecDepth 100000 in
theorem read : BsIs Tryd.prog 21 56 5 := by
 intro b p v s w hbk hown hs0
 obtain ⟨g, cap, cur, rfl, hbg, hg, hnc, hcm, hcs, htake⟩ : ∃ g cap cur, v = .slice (some ⟨g, 0, none⟩) s.size cap ∧ 0 ≤ g ∧ w.heap[g]? = some (.cells cur 5 (0, 0)) ∧ s.size ≤ cap ∧ cap ≤ maxLen ∧ cur.size = cap * 1 ∧ cur.toList.take (s.size * 1) = Lib.strCells s := by
  rcases hown.2 with ⟨_, hz⟩ | ⟨g, cap, cur, hv, r⟩
  · exact absurd hz hs0
  · exact ⟨g, cap, cur, hv, r⟩
 have hll : s.data.toList.length = s.size := by rw [Array.length_toList]; rfl
 have c1 : w.drew.cell? ⟨b, 1, none⟩ = some (.slice (some ⟨g, 0, none⟩) s.size cap) := by
  have : w.drew.heap[b]? = some (.cells #[p, .slice (some ⟨g, 0, none⟩) s.size cap] 56 (0, 0)) := hbk
  rw [Lib.cell_of_heap this]; rfl
 have hSD : (Builtin.unsafeSliceData_ #[54] 91 #[.slice (some ⟨g, 0, none⟩) s.size cap]).run Tryd.prog w.drew = .ok (.pointer (some ⟨g, 0, none⟩)) w.drew :=
  Lib.run_unsafeSliceData_row _ _ _ _ _ _ (by omega)
 have hUS : (Builtin.unsafeString_ #[91, 3] 9 #[.pointer (some ⟨g, 0, none⟩), .int .i64 s.size]).run Tryd.prog w.drew = .ok (.string s) (w.drew.freeze ⟨g, 0, none⟩ s.size) := by
  have := Lib.run_unsafeString_row (P := Tryd.prog) w.drew 91 3 9 5 Tryd.underlying91 (by kernel_rfl) g cur.size (by have hg' : w.drew.heap[g]? = some (.cells cur 5 (0, 0)) := hg; simp [World.shape?, hg']) s.data.toList (fun e => by rw [e] at hll; simp at hll; omega) (by omega) (by unfold maxLen at hcm; omega) (fun j x hx => by
   have := hown.cells (g := g) rfl j (.int .u8 x.toNat) (by simp [Lib.strCells, hx])
   exact this)
  rw [hll] at this
  simpa using this
 have mixed : Tryd.prog.follows .mixedOrders = true := by kernel_rfl
 go_enter Tryd.func21, Tryd.ntmps21
 go_wp2
 go_region_o
 all_goals (go_wp2; go_ret; exact ⟨rfl, g, rfl, rfl⟩)
end Dk.M.bld
