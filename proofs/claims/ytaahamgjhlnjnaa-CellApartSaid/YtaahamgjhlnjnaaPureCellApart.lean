/- Two cells of any words are one just if their tags and their values are; cell.Make puts a cell of a tag up to 6 together again. No condition. -/
import Derived.Test.YtaahamgjhlnjnaaPCellApartx1
import Derived.Test.YtaahamgjhlnjnaaBits
namespace Go.Proofs.Ytaahamgjhlnjnaa.Pure
open Go.RowKit Go.Proofs.Ytaahamgjhlnjnaa.PCellApart Go.Proofs.YtaahamgjhlnjnaaW.PrintWords Go.Proofs.YtaahamgjhlnjnaaW.PrintLast

theorem small_in (n : Int) (h0 : -1152921504606846976 ≤ n) (h1 : n < 1152921504606846976) : cell_Small.f n = some ((n % 2305843009213693952) * 8 + 3, true) := by
  unfold cell_Small.f
  rw [if_neg (by omega), if_neg (by omega), wrap_u64 n, wrap_u64, or3 _ _ (by omega) (by omega) (by omega) (by omega) (by omega)]
  have e : n % 18446744073709551616 * 8 % 18446744073709551616 = (n % 2305843009213693952) * 8 := by omega
  rw [e]
theorem small_out (n : Int) (h : n < -1152921504606846976 ∨ 1152921504606846976 ≤ n) : cell_Small.f n = some (0, false) := by
  unfold cell_Small.f
  by_cases h0 : n < -1152921504606846976
  · rw [if_pos h0]
  · rw [if_neg h0, if_pos (by omega)]
theorem int_f (c : Int) : cell_Int.f c = some (wrap64 c / 8) := rfl
theorem tag_f (c : Int) (h0 : 0 ≤ c) (h1 : c < 18446744073709551616) : cell_Tag.f c = some (c % 8) := by
  unfold cell_Tag.f
  rw [and7 c h0 h1, wrap64_in _ (by omega) (by omega)]
theorem awake_f : elenchuslaw4_awake.f = some true := by
  unfold elenchuslaw4_awake.f
  rw [small_in (-1) (by omega) (by omega)]
  simp only [Option.bind_some]
  rw [tag_f _ (by omega) (by omega)]
  decide +kernel
theorem make_in (t n : Int) (h0 : 0 ≤ t) (h1 : t ≤ 6) (h2 : 0 ≤ n) (h3 : n < 2305843009213693952) : cell_Make.f t n = some (n * 8 + t, true) := by
  unfold cell_Make.f
  rw [if_neg (by omega), if_neg (by omega), if_neg (by omega), wraps_u64' _ (by omega) (by omega), wraps_u64' _ (by omega) (by omega), or3 _ _ (by omega) (by omega) (by omega) (by omega) (by omega)]
theorem make_out (t n : Int) (h : ¬ (0 ≤ t ∧ t ≤ 6 ∧ n < 2305843009213693952)) : cell_Make.f t n = some (0, false) := by
  unfold cell_Make.f
  by_cases h0 : t < 0
  · rw [if_pos h0]
  · by_cases h1 : t > 6
    · rw [if_neg h0, if_pos h1]
    · rw [if_neg h0, if_neg h1, if_pos (by omega)]

theorem CellApart : elenchuslaw4_CellApart.Pure := by
  intro a0 a1 w0 w1
  have b0 := wf_u64 w0
  have b1 := wf_u64 w1
  refine ⟨1, ?_⟩
  have vf : ∀ c, cell_Value.f c = some (c / 8) := fun _ => rfl
  have hj : elenchuslaw4_CellApart.j0 1 a0 false = some true := by
    simp only [elenchuslaw4_CellApart.j0, Bool.false_eq_true, if_false]
    rw [tag_f _ (by omega) (by omega), vf]
    simp only [Option.bind_some]
    by_cases h : a0 % 8 ≤ 6
    · rw [make_in _ _ (by omega) h (by omega) (by omega)]
      simp [h, awake_f, show a0 / 8 * 8 + a0 % 8 = a0 by omega]
    · rw [make_out _ _ (by omega)]
      simp [h, awake_f]
  unfold elenchuslaw4_CellApart.f
  rw [tag_f _ (by omega) (by omega), tag_f _ (by omega) (by omega), vf, vf]
  simp only [Option.bind_some]
  by_cases h : a0 % 8 = a1 % 8
  · rw [if_pos h]
    have e : ((a0 == a1) != (a0 / 8 == a1 / 8)) = false := by
      by_cases h2 : a0 / 8 = a1 / 8
      · rw [show a0 = a1 by omega]; simp
      · rw [beq_eq_false_iff_ne.2 (show a0 ≠ a1 by omega), beq_eq_false_iff_ne.2 h2]; rfl
    rw [e]; exact hj
  · rw [if_neg h]
    have e : ((a0 == a1) != false) = false := by rw [beq_eq_false_iff_ne.2 (show a0 ≠ a1 from fun e => h (by rw [e]))]; rfl
    rw [e]; exact hj

end Go.Proofs.Ytaahamgjhlnjnaa.Pure
