/- cell.Make and cell.Tag, Value and Int answer as the reference's for every tag, number and word. No condition. -/
import Derived.Test.YtaahamgjhlnjnaaPCellMakesx1
import Derived.Test.YtaahamgjhlnjnaaBits
namespace Go.Proofs.Ytaahamgjhlnjnaa.Pure
open Go.RowKit Go.Proofs.Ytaahamgjhlnjnaa.PCellMakes Go.Proofs.YtaahamgjhlnjnaaW.PrintWords Go.Proofs.YtaahamgjhlnjnaaW.PrintLast

theorem small_in (n : Int) (h0 : -1152921504606846976 ≤ n) (h1 : n < 1152921504606846976) : cell_Small.f n = some ((n % 2305843009213693952) * 8 + 3, true) := by
  unfold cell_Small.f
  rw [if_neg (by omega), if_neg (by omega), wrap_u64 n, wrap_u64, or3 _ _ (by omega) (by omega) (by omega) (by omega) (by omega)]
  have e : n % 18446744073709551616 * 8 % 18446744073709551616 = (n % 2305843009213693952) * 8 := by omega
  rw [e]
theorem small_out (n : Int) (h : n < -1152921504606846976 ∨ 1152921504606846976 ≤ n) : cell_Small.f n = some (0, false) := by
  unfold cell_Small.f
  by_cases h0 : n < -1152921504606846976
  · rw [if_pos h0]
  · rw [if_neg h0, if_pos (by omega)]
theorem int_f (c : Int) : cell_Int.f c = some (wrap64 c / 8) := rfl
theorem tag_f (c : Int) (h0 : 0 ≤ c) (h1 : c < 18446744073709551616) : cell_Tag.f c = some (c % 8) := by
  unfold cell_Tag.f
  rw [and7 c h0 h1, wrap64_in _ (by omega) (by omega)]
theorem awake_f : elenchuslaw4_awake.f = some true := by
  unfold elenchuslaw4_awake.f
  rw [small_in (-1) (by omega) (by omega)]
  simp only [Option.bind_some]
  rw [tag_f _ (by omega) (by omega)]
  decide +kernel
theorem make_in (t n : Int) (h0 : 0 ≤ t) (h1 : t ≤ 6) (h2 : 0 ≤ n) (h3 : n < 2305843009213693952) : cell_Make.f t n = some (n * 8 + t, true) := by
  unfold cell_Make.f
  rw [if_neg (by omega), if_neg (by omega), if_neg (by omega), wraps_u64' _ (by omega) (by omega), wraps_u64' _ (by omega) (by omega), or3 _ _ (by omega) (by omega) (by omega) (by omega) (by omega)]
theorem make_out (t n : Int) (h : ¬ (0 ≤ t ∧ t ≤ 6 ∧ n < 2305843009213693952)) : cell_Make.f t n = some (0, false) := by
  unfold cell_Make.f
  by_cases h0 : t < 0
  · rw [if_pos h0]
  · by_cases h1 : t > 6
    · rw [if_neg h0, if_pos h1]
    · rw [if_neg h0, if_neg h1, if_pos (by omega)]

theorem CellMakes : elenchuslaw4_CellMakes.Pure := by
  intro a0 a1 a2 w0 w1 w2
  have b0 := wf_i64 w0
  have b1 := wf_u64 w1
  have b2 := wf_u64 w2
  refine ⟨2, ?_⟩
  have vf : ∀ c, cell_Value.f c = some (c / 8) := fun _ => rfl
  have vr : ∀ c, elenchusref4_Value.f c = some (c / 8) := fun _ => rfl
  have tr : ∀ c, elenchusref4_Tag.f c = cell_Tag.f c := fun _ => rfl
  have ir : ∀ c, elenchusref4_Int.f c = cell_Int.f c := fun _ => rfl
  unfold elenchuslaw4_CellMakes.f
  by_cases h : 0 ≤ a0 ∧ a0 ≤ 6 ∧ a1 < 2305843009213693952
  · obtain ⟨h1, h2, h3⟩ := h
    have mr : elenchusref4_Make.f a0 a1 = some (a1 * 8 + a0) := by
      unfold elenchusref4_Make.f
      rw [wraps_u64' _ (by omega) (by omega), wraps_u64' _ (by omega) (by omega), or3 _ _ (by omega) (by omega) (by omega) (by omega) (by omega)]
    rw [make_in _ _ h1 h2 (by omega) h3]
    simp [h1, h2, h3, elenchuslaw4_CellMakes.j0, elenchuslaw4_CellMakes.j1, mr, vr, vf, tr, ir, tag_f a2 b2.1 (by omega), int_f, awake_f]
  · rw [make_out _ _ h]
    simp only [Option.bind_some]
    have hj : elenchuslaw4_CellMakes.j0 2 a0 a1 a2 0 false false = some true := by
      simp [elenchuslaw4_CellMakes.j0, elenchuslaw4_CellMakes.j1, vr, vf, tr, ir, tag_f a2 b2.1 (by omega), int_f, awake_f]
    by_cases h1 : a0 ≥ 0
    · rw [if_pos h1]
      by_cases h2 : a0 ≤ 6
      · rw [if_pos h2, show decide (a1 < 2305843009213693952) = false by simp; omega]; exact hj
      · rw [if_neg h2]; exact hj
    · rw [if_neg h1]; exact hj

end Go.Proofs.Ytaahamgjhlnjnaa.Pure
