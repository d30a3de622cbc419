/- For any two int64 numbers shifted down by four, cell.Small takes both and Int tells their order; one step beyond either end of 61 bits it takes none. No condition. -/
import Derived.Test.YtaahamgjhlnjnaaPCellOrderx1
import Derived.Test.YtaahamgjhlnjnaaBits
namespace Go.Proofs.Ytaahamgjhlnjnaa.Pure
open Go.RowKit Go.Proofs.Ytaahamgjhlnjnaa.PCellOrder Go.Proofs.YtaahamgjhlnjnaaW.PrintWords Go.Proofs.YtaahamgjhlnjnaaW.PrintLast

theorem small_in (n : Int) (h0 : -1152921504606846976 ≤ n) (h1 : n < 1152921504606846976) : cell_Small.f n = some ((n % 2305843009213693952) * 8 + 3, true) := by
  unfold cell_Small.f
  rw [if_neg (by omega), if_neg (by omega), wrap_u64 n, wrap_u64, or3 _ _ (by omega) (by omega) (by omega) (by omega) (by omega)]
  have e : n % 18446744073709551616 * 8 % 18446744073709551616 = (n % 2305843009213693952) * 8 := by omega
  rw [e]
theorem small_out (n : Int) (h : n < -1152921504606846976 ∨ 1152921504606846976 ≤ n) : cell_Small.f n = some (0, false) := by
  unfold cell_Small.f
  by_cases h0 : n < -1152921504606846976
  · rw [if_pos h0]
  · rw [if_neg h0, if_pos (by omega)]
theorem int_f (c : Int) : cell_Int.f c = some (wrap64 c / 8) := rfl
theorem tag_f (c : Int) (h0 : 0 ≤ c) (h1 : c < 18446744073709551616) : cell_Tag.f c = some (c % 8) := by
  unfold cell_Tag.f
  rw [and7 c h0 h1, wrap64_in _ (by omega) (by omega)]
theorem awake_f : elenchuslaw4_awake.f = some true := by
  unfold elenchuslaw4_awake.f
  rw [small_in (-1) (by omega) (by omega)]
  simp only [Option.bind_some]
  rw [tag_f _ (by omega) (by omega)]
  decide +kernel

theorem CellOrder : elenchuslaw4_CellOrder.Pure := by
  intro a0 a1 a2 w0 w1 w2
  have b0 := wf_i64 w0
  have b1 := wf_i64 w1
  unfold elenchuslaw4_CellOrder.f
  have hk0 : 0 ≤ IntKind.u64.wrap a2 := by rw [wrap_u64]; omega
  rw [tmod_pos _ _ hk0]
  obtain ⟨k, hk⟩ : ∃ k, k = IntKind.u64.wrap a2 % 5 := ⟨_, rfl⟩
  have hk1 : 0 ≤ k ∧ k < 5 := by omega
  rw [← hk, small_in (a0 / 16) (by omega) (by omega), small_in (a1 / 16) (by omega) (by omega)]
  simp only [Option.bind_some]
  rw [wrap64_in k (by omega) (by omega), wrap64_in (1152921504606846976 + k) (by omega) (by omega), wrap64_in (1152921504606846976 + k - 2) (by omega) (by omega),
    wrap64_in (-1152921504606846976 + k) (by omega) (by omega), wrap64_in (-1152921504606846976 + k - 2) (by omega) (by omega)]
  rw [int_f, int_f]
  have e : ∀ n : Int, -1152921504606846976 ≤ n → n < 1152921504606846976 → wrap64 ((n % 2305843009213693952) * 8 + 3) / 8 = n := by
    intro n h0 h1; unfold wrap64; omega
  simp only [Option.bind_some]
  rw [e _ (by omega) (by omega), e _ (by omega) (by omega)]
  by_cases h2 : k < 2
  · rw [small_in (1152921504606846976 + k - 2) (by omega) (by omega), small_out (-1152921504606846976 + k - 2) (by omega)]
    simp [h2, awake_f, show ¬ (2 ≤ k) by omega]
  · rw [small_out (1152921504606846976 + k - 2) (by omega), small_in (-1152921504606846976 + k - 2) (by omega) (by omega)]
    simp [h2, awake_f, show (2 ≤ k) by omega]

end Go.Proofs.Ytaahamgjhlnjnaa.Pure
