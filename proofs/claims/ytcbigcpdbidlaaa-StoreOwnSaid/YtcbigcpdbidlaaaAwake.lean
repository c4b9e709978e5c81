/- A part of the proof: D's calls, and what they come to. No condition. -/
import Derived.Test.YtcbigcpdbidlaaaStore
set_option linter.unusedVariables false
set_option linter.unusedSimpArgs false
namespace Dk.A
open Go Dk

theorem awake_ok (h : Hp) : C0 n_awake [] h = some (eB true, h) := by
  refine call_loc noExt_mono (f := n_awake) rfl rfl rfl fun h0 e0 el => ?_
  simp
  refine PutA_of (new_ok 1 h0 (by omega) (by omega)) ?_
  rintro v h1 ⟨rfl, H, F⟩
  have hl1 := F.limlen (by omega)
  simp
  refine PutA_of (take_ok H (by simp [Sto.new]) ⟨3, 0, 0, 0, 0, 0⟩) ?_
  rintro v h2 ⟨rfl, H2, F2⟩
  have hl2 := F2.limlen hl1
  have t1 : (Sto.new 1).take ⟨3, 0, 0, 0, 0, 0⟩ = (⟨0, 0⟩, true, ⟨[⟨0, true, ⟨3, 0, 0, 0, 0, 0⟩, 1⟩], 1, 1⟩) := by rfl
  rw [t1] at H2 ⊢
  simp [Ref.cells, hl2]
  have a2 := arr_lt H2.top
  have b2 := arr_lt H2.sl
  refine PutA_of (take_ok (H2.fwd (ids := []) (by repeat first | exact Fwd.refl _ _ | refine Fwd.set ?_ _ (by simp) | refine Fwd.new ?_ _) (by simp) (by simp)) (by simp) ⟨0, 0, 0, 0, 0, 0⟩) ?_
  rintro v h3 ⟨rfl, H3, F3⟩
  have B3 := F3.arr (id := h2.objs.length) (g := 0) (ar := ⟨0, 2, true, 0, [[eI 0, eI 0]]⟩) (by simp) (by simp [nl a2, nl b2])
  have hl3 := F3.limlen (by simp; omega)
  have t2 : Sto.take ⟨[⟨0, true, ⟨3, 0, 0, 0, 0, 0⟩, 1⟩], 1, 1⟩ ⟨0, 0, 0, 0, 0, 0⟩ = (⟨0, 0⟩, false, ⟨[⟨0, true, ⟨3, 0, 0, 0, 0, 0⟩, 1⟩], 1, 1⟩) := by rfl
  rw [t2] at H3 ⊢
  have a3 := arr_lt H3.top
  have b3 := arr_lt H3.sl
  have c3 := arr_lt B3
  simp [Ref.cells, hl3, B3, nl c3]
  refine PutA_of (add_ok (H3.fwd (ids := []) (by repeat first | exact Fwd.refl _ _ | refine Fwd.set ?_ _ (by simp) | refine Fwd.new ?_ _) (by simp) (by simp)) ⟨0, 0⟩ (-1)) ?_
  rintro v h4 ⟨rfl, H4, F4⟩
  have B4 := F4.arr (id := h2.objs.length) (g := 0) (ar := ⟨0, 2, true, 0, [[eI 0, eI 0]]⟩) (by simp [nl c3, B3]) (by simp [nl a2, nl b2])
  have hl4 := F4.limlen (by simp; omega)
  have t3 : Sto.add ⟨[⟨0, true, ⟨3, 0, 0, 0, 0, 0⟩, 1⟩], 1, 1⟩ ⟨0, 0⟩ (-1) = (0, true, ⟨[⟨0, true, ⟨3, 0, 0, 0, 0, 0⟩, 0⟩], 1, 0⟩) := by rfl
  rw [t3] at H4 ⊢
  simp [B4]
  refine PutA_of (free_ok H4 ⟨0, 0⟩) ?_
  rintro v h5 ⟨rfl, H5, F5⟩
  have B5 := F5.arr B4 (by simp [nl a2, nl b2])
  have hl5 := F5.limlen hl4
  have t4 : Sto.freed ⟨[⟨0, true, ⟨3, 0, 0, 0, 0, 0⟩, 0⟩], 1, 0⟩ ⟨0, 0⟩ = (true, ⟨[⟨1, false, ⟨0, 0, 0, 0, 0, 0⟩, 0⟩], 0, 0⟩) := by rfl
  rw [t4] at H5 ⊢
  simp [B5]
  refine PutA_of (take_ok H5 (by simp) ⟨0, 0, 0, 0, 0, 0⟩) ?_
  rintro v h6 ⟨rfl, H6, F6⟩
  have B6 := F6.arr B5 (by simp [nl a2, nl b2])
  have hl6 := F6.limlen hl5
  have t5 : Sto.take ⟨[⟨1, false, ⟨0, 0, 0, 0, 0, 0⟩, 0⟩], 0, 0⟩ ⟨0, 0, 0, 0, 0, 0⟩ = (⟨0, 1⟩, true, ⟨[⟨1, true, ⟨0, 0, 0, 0, 0, 0⟩, 1⟩], 1, 1⟩) := by rfl
  rw [t5]
  have c6 := arr_lt B6
  simp [Ref.cells, hl6, B6, nl c6, Ends]
end Dk.A
