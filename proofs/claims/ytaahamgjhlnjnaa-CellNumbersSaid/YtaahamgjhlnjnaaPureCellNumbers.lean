/- cell.Small and cell.Functor answer as the reference's for every number, atom and arity, and a small number has no parts. No condition. -/
import Derived.Test.YtaahamgjhlnjnaaPCellNumbersx1
import Derived.Test.YtaahamgjhlnjnaaBits
namespace Go.Proofs.Ytaahamgjhlnjnaa.Pure
open Go.RowKit Go.Proofs.Ytaahamgjhlnjnaa.PCellNumbers Go.Proofs.YtaahamgjhlnjnaaW.PrintWords Go.Proofs.YtaahamgjhlnjnaaW.PrintLast

theorem small_in (n : Int) (h0 : -1152921504606846976 ≤ n) (h1 : n < 1152921504606846976) : cell_Small.f n = some ((n % 2305843009213693952) * 8 + 3, true) := by
  unfold cell_Small.f
  rw [if_neg (by omega), if_neg (by omega), wrap_u64 n, wrap_u64, or3 _ _ (by omega) (by omega) (by omega) (by omega) (by omega)]
  have e : n % 18446744073709551616 * 8 % 18446744073709551616 = (n % 2305843009213693952) * 8 := by omega
  rw [e]
theorem small_out (n : Int) (h : n < -1152921504606846976 ∨ 1152921504606846976 ≤ n) : cell_Small.f n = some (0, false) := by
  unfold cell_Small.f
  by_cases h0 : n < -1152921504606846976
  · rw [if_pos h0]
  · rw [if_neg h0, if_pos (by omega)]
theorem int_f (c : Int) : cell_Int.f c = some (wrap64 c / 8) := rfl
theorem tag_f (c : Int) (h0 : 0 ≤ c) (h1 : c < 18446744073709551616) : cell_Tag.f c = some (c % 8) := by
  unfold cell_Tag.f
  rw [and7 c h0 h1, wrap64_in _ (by omega) (by omega)]
theorem awake_f : elenchuslaw4_awake.f = some true := by
  unfold elenchuslaw4_awake.f
  rw [small_in (-1) (by omega) (by omega)]
  simp only [Option.bind_some]
  rw [tag_f _ (by omega) (by omega)]
  decide +kernel
theorem make_in (t n : Int) (h0 : 0 ≤ t) (h1 : t ≤ 6) (h2 : 0 ≤ n) (h3 : n < 2305843009213693952) : cell_Make.f t n = some (n * 8 + t, true) := by
  unfold cell_Make.f
  rw [if_neg (by omega), if_neg (by omega), if_neg (by omega), wraps_u64' _ (by omega) (by omega), wraps_u64' _ (by omega) (by omega), or3 _ _ (by omega) (by omega) (by omega) (by omega) (by omega)]
theorem make_out (t n : Int) (h : ¬ (0 ≤ t ∧ t ≤ 6 ∧ n < 2305843009213693952)) : cell_Make.f t n = some (0, false) := by
  unfold cell_Make.f
  by_cases h0 : t < 0
  · rw [if_pos h0]
  · by_cases h1 : t > 6
    · rw [if_neg h0, if_pos h1]
    · rw [if_neg h0, if_neg h1, if_pos (by omega)]

theorem functor_in (a n : Int) (h0 : 0 ≤ a) (h1 : a < 4096) (h2 : 1 ≤ n) (h3 : n ≤ 20) : cell_Functor.f a n = some ((a * 256 + n) * 8 + 6, true) := by
  unfold cell_Functor.f
  rw [if_neg (by omega), if_neg (by omega), if_neg (by omega), if_neg (by omega), wrap64_in (a * 256) (by omega) (by omega), wrap64_in (a * 256 + n) (by omega) (by omega),
    wraps_u64' _ (by omega) (by omega), make_in 6 _ (by omega) (by omega) (by omega) (by omega)]
  rfl
theorem functor_out (a n : Int) (h : ¬ (0 ≤ a ∧ a < 4096 ∧ 1 ≤ n ∧ n ≤ 20)) : cell_Functor.f a n = some (0, false) := by
  unfold cell_Functor.f
  by_cases h0 : a < 0
  · rw [if_pos h0]
  by_cases h1 : a ≥ 4096
  · rw [if_neg h0, if_pos h1]
  by_cases h2 : n < 1
  · rw [if_neg h0, if_neg h1, if_pos h2]
  · rw [if_neg h0, if_neg h1, if_neg h2, if_pos (by omega)]
theorem parts_f (c : Int) (h0 : 0 ≤ c) (h1 : c < 18446744073709551616) : cell_Parts.f c = some (if c % 8 = 6 then (c / 8 / 256, c / 8 % 256) else (0, 0)) := by
  unfold cell_Parts.f cell_Value.f
  rw [tag_f c h0 h1]
  simp only [Option.bind_some]
  by_cases h : c % 8 = 6
  · rw [if_pos h, if_pos h, tdiv_pos _ _ (by omega), tmod_pos _ _ (by omega), wraps_u64' _ (by omega) (by omega), wrap64_in _ (by omega) (by omega), wrap64_in _ (by omega) (by omega)]
  · rw [if_neg h, if_neg h]

theorem CellNumbers : elenchuslaw4_CellNumbers.Pure := by
  intro a0 a1 a2 w0 w1 w2
  have b0 := wf_i64 w0
  have b1 := wf_i64 w1
  have b2 := wf_i64 w2
  refine ⟨2, ?_⟩
  obtain ⟨c, ok, hs, hr, hc⟩ : ∃ c ok, cell_Small.f a0 = some (c, ok) ∧ elenchusref4_Small.f a0 = some (c, ok) ∧ cell_Parts.f c = some (0, 0) := by
    unfold elenchusref4_Small.f
    by_cases h : -1152921504606846976 ≤ a0 ∧ a0 < 1152921504606846976
    · refine ⟨_, _, small_in a0 h.1 h.2, ?_, ?_⟩
      · rw [if_neg (by omega), if_neg (by omega), wrap_u64 a0, and61 _ (by omega) (by omega)]
        unfold elenchusref4_Make.f
        rw [wraps_u64' _ (by omega) (by omega), wraps_u64' _ (by omega) (by omega), or3 _ _ (by omega) (by omega) (by omega) (by omega) (by omega)]
        simp only [Option.bind_some]
        rw [show a0 % 18446744073709551616 % 2305843009213693952 = a0 % 2305843009213693952 by omega]
      · rw [parts_f _ (by omega) (by omega), if_neg (by omega)]
    · refine ⟨_, _, small_out a0 (by omega), ?_, ?_⟩
      · by_cases h2 : a0 < -1152921504606846976
        · rw [if_pos h2]
        · rw [if_neg h2, if_pos (by omega)]
      · rw [parts_f _ (by omega) (by omega), if_neg (by omega)]
  have hj1 : ∀ k, elenchuslaw4_CellNumbers.j1 (k + 1) c false = some true := by
    intro k
    simp [elenchuslaw4_CellNumbers.j1, hc, awake_f]
  unfold elenchuslaw4_CellNumbers.f
  rw [hs, hr]
  simp only [Option.bind_some]
  by_cases h : 0 ≤ a1 ∧ a1 < 4096 ∧ 1 ≤ a2 ∧ a2 ≤ 20
  · obtain ⟨h1, h2, h3, h4⟩ := h
    have fr : elenchusref4_Functor.f a1 a2 = some ((a1 * 256 + a2) * 8 + 6) := by
      unfold elenchusref4_Functor.f elenchusref4_Make.f
      rw [wraps_u64' a1 (by omega) (by omega), wraps_u64' (a1 * 256) (by omega) (by omega), wraps_u64' a2 (by omega) (by omega), or8 (a1 * 256) a2 (by omega) (by omega) (by omega) (by omega) (by omega),
        wraps_u64' ((a1 * 256 + a2) * 8) (by omega) (by omega), wraps_u64' 6 (by omega) (by omega), or3 _ _ (by omega) (by omega) (by omega) (by omega) (by omega)]
      rfl
    rw [functor_in a1 a2 h1 h2 h3 h4]
    simp [h1, h2, h3, h4, elenchuslaw4_CellNumbers.j0, fr, hj1]
  · rw [functor_out _ _ h]
    have hj : elenchuslaw4_CellNumbers.j0 2 a1 a2 c ok c ok 0 false false = some true := by
      simp [elenchuslaw4_CellNumbers.j0, hj1]
    simp only [Option.bind_some]
    by_cases h1 : a1 ≥ 0
    · by_cases h2 : a1 < 4096
      · by_cases h3 : a2 ≥ 1
        · rw [if_pos h1, if_pos h2, if_pos h3, show decide (a2 ≤ 20) = false by simp; omega]; exact hj
        · rw [if_pos h1, if_pos h2, if_neg h3]; exact hj
      · rw [if_pos h1, if_neg h2]; exact hj
    · rw [if_neg h1]; exact hj

end Go.Proofs.Ytaahamgjhlnjnaa.Pure
