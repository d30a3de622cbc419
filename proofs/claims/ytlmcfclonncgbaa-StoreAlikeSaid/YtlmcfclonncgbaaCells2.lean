/- More of the cells' calls (package cell, and the reference's): small numbers, functors: each by a contract. -/
import Derived.Test.YtlmcfclonncgbaaCell
import Derived.Test.YtlmcfclonncgbaaRep
import Derived.Test.YtlmcfclonncgbaaMem
namespace Go.Proofs.Ytlmcfclonncgbaa
open Go.RowKit
set_option linter.unusedVariables false

open Go.RowKit
/-- A number as it stands in a cell. -/
def intC (c : Int) : Int := wrap64 c / 8
theorem small_any (n : Int) (w : World) (h0 : -9223372036854775808 ≤ n) (h1 : n ≤ 9223372036854775807) :
    Calls Try.prog 121 #[.int .i64 n] w fun e w' => e = .returned (.tuple #[.int .u64 (if isSmall n then smallC n else 0), .bool (decide (isSmall n))]) ∧ w' = w := by
  by_cases h : isSmall n
  · rw [if_pos h, decide_eq_true h]
    obtain ⟨h2, h3⟩ := h
    have h3' : n ≤ 1152921504606846975 := by omega
    go_enter Try.func121, Try.ntmps121
    go_wp2
    go_ret2
    refine ⟨ret_pair ?_, rfl⟩
    rw [or3 _ _ (by rw [wrap_u64]; omega) (by rw [wrap_u64]; omega) (by rw [wrap_u64, wrap_u64]; omega) (by omega) (by omega), wrap_u64, wrap_u64]
    unfold smallC
    omega
  · rw [if_neg h, decide_eq_false h]
    unfold isSmall at h
    by_cases h2 : n < -1152921504606846976
    · go_enter Try.func121, Try.ntmps121
      go_wp2
      go_ret2
      exact ⟨rfl, rfl⟩
    · have h2' : -1152921504606846976 ≤ n := by omega
      have h3 : 1152921504606846975 < n := by omega
      go_enter Try.func121, Try.ntmps121
      go_wp2
      go_ret2
      exact ⟨rfl, rfl⟩
theorem int_any (c : Int) (w : World) : Calls Try.prog 130 #[.int .u64 c] w fun e w' => e = .returned (.int .i64 (intC c)) ∧ w' = w := by
  go_enter Try.func130, Try.ntmps130
  go_wp2
  go_ret
  exact ⟨rfl, rfl⟩
theorem rint_any (c : Int) (w : World) : Calls Try.prog 137 #[.int .u64 c] w fun e w' => e = .returned (.int .i64 (intC c)) ∧ w' = w := by
  go_enter Try.func137, Try.ntmps137
  go_wp2
  go_ret
  exact ⟨rfl, rfl⟩
theorem functor_any (i n : Nat) (w : World) (hi : i < 4096) (h1 : 1 ≤ n) (h2 : n ≤ 20) :
    Calls Try.prog 159 #[.int .i64 i, .int .i64 n] w fun e w' => e = .returned (.tuple #[.int .u64 (funC i n), .bool true]) ∧ w' = w := by
  unfold funC
  generalize ha : (i : Int) = a
  generalize hk : (n : Int) = k
  have a0 : 0 ≤ a := by omega
  have a1 : a < 4096 := by omega
  have k0 : 1 ≤ k := by omega
  have k1 : k ≤ 20 := by omega
  clear hi h1 h2 ha hk
  go_enter Try.func159, Try.ntmps159
  go_wp2_with (go_at_call 118; refine (make_ok _ _ _ (by omega) (by omega) (by omega) (by omega)).mono ?_; rintro e w' ⟨rfl, rfl⟩)
  go_ret2
  exact ⟨rfl, rfl⟩
theorem rfunctor_any (i n : Nat) (w : World) (hi : i < 4096) (h1 : 1 ≤ n) (h2 : n ≤ 20) :
    Calls Try.prog 125 #[.int .i64 i, .int .i64 n] w fun e w' => e = .returned (.int .u64 (funC i n)) ∧ w' = w := by
  unfold funC
  generalize ha : (i : Int) = a
  generalize hk : (n : Int) = k
  have a0 : 0 ≤ a := by omega
  have a1 : a < 4096 := by omega
  have k0 : 1 ≤ k := by omega
  have k1 : k ≤ 20 := by omega
  clear hi h1 h2 ha hk
  have ho := or8 (a * 256) k (by omega) (by omega) (by omega) (by omega) (by omega)
  go_enter Try.func125, Try.ntmps125
  go_wp2_with fail
  refine (rmake_any _ _ _ (by omega) (by omega) (by omega) (by omega)).mono ?_
  rintro e w' ⟨rfl, rfl⟩
  go_wp2_with fail
  go_ret
  exact ⟨rfl, rfl⟩
theorem rsmall_any (n : Int) (w : World) (h0 : -9223372036854775808 ≤ n) (h1 : n ≤ 9223372036854775807) :
    Calls Try.prog 30 #[.int .i64 n] w fun e w' => e = .returned (.tuple #[.int .u64 (if isSmall n then smallC n else 0), .bool (decide (isSmall n))]) ∧ w' = w := by
  by_cases h : isSmall n
  · rw [if_pos h, decide_eq_true h]
    obtain ⟨h2, h3⟩ := h
    have h3' : n ≤ 1152921504606846975 := by omega
    have hz := and61 (IntKind.u64.wrap n) (by rw [wrap_u64]; omega) (by rw [wrap_u64]; omega)
    go_enter Try.func30, Try.ntmps30
    go_wp2_with fail
    refine (rmake_any _ _ _ (by omega) (by omega) (by omega) (by omega)).mono ?_
    rintro e w' ⟨rfl, rfl⟩
    go_wp2_with fail
    go_ret2
    refine ⟨ret_pair ?_, rfl⟩
    rw [wrap_u64]
    unfold smallC
    omega
  · rw [if_neg h, decide_eq_false h]
    unfold isSmall at h
    by_cases h2 : n < -1152921504606846976
    · go_enter Try.func30, Try.ntmps30
      go_wp2_with fail
      go_ret2
      exact ⟨rfl, rfl⟩
    · have h2' : -1152921504606846976 ≤ n := by omega
      have h3 : 1152921504606846976 ≤ n := by omega
      go_enter Try.func30, Try.ntmps30
      go_wp2_with fail
      go_ret2
      exact ⟨rfl, rfl⟩
def partsA (c : Int) : Int := if c % 8 = 6 then c / 8 / 256 else 0
def partsN (c : Int) : Int := if c % 8 = 6 then c / 8 % 256 else 0
theorem parts_any (c : Int) (w : World) (h0 : 0 ≤ c) (h1 : c < 18446744073709551616) :
    Calls Try.prog 146 #[.int .u64 c] w fun e w' => e = .returned (.tuple #[.int .i64 (partsA c), .int .i64 (partsN c)]) ∧ w' = w := by
  unfold partsA partsN
  have htd := tdiv_pos (c / 8) 256 (by omega)
  have htm := tmod_pos (c / 8) 256 (by omega)
  by_cases h : c % 8 = 6
  · rw [if_pos h, if_pos h]
    have h' : ((c % 8 : Int) != 6) = false := by simp [h]
    have HH := Lib.hid h
    clear h
    go_enter Try.func146, Try.ntmps146
    go_wp2_with (first | (go_at_call 126; refine (tag_any _ _).mono ?_; rintro e w' ⟨rfl, rfl⟩) | (go_at_call 111; refine (value_any _ _).mono ?_; rintro e w' ⟨rfl, rfl⟩))
    go_ret2
    exact ⟨rfl, rfl⟩
  · rw [if_neg h, if_neg h]
    have h' : ((c % 8 : Int) != 6) = true := by simp [h]
    go_enter Try.func146, Try.ntmps146
    go_wp2_with (first | (go_at_call 126; refine (tag_any _ _).mono ?_; rintro e w' ⟨rfl, rfl⟩) | (go_at_call 111; refine (value_any _ _).mono ?_; rintro e w' ⟨rfl, rfl⟩))
    go_ret2
    exact ⟨rfl, rfl⟩
theorem ref_any (p : Int) (w : World) (h0 : 0 ≤ p) (h1 : p < 2305843009213693952) : Calls Try.prog 158 #[.int .i64 p] w fun e w' => e = .returned (.int .u64 (p * 8)) ∧ w' = w := by
  go_enter Try.func158, Try.ntmps158
  go_wp2_with (go_at_call 118; refine (make_ok _ _ _ (by omega) (by omega) (by omega) (by omega)).mono ?_; rintro e w' ⟨rfl, rfl⟩)
  go_ret
  exact ⟨ret_int (by omega), rfl⟩
theorem cref_any (p : Int) (w : World) (h0 : 0 ≤ p) (h1 : p < 2305843009213693952) : Calls Try.prog 171 #[.int .i64 p] w fun e w' => e = .returned (.int .u64 (p * 8)) ∧ w' = w := by
  go_enter Try.func171, Try.ntmps171
  go_wp2_with (go_at_call 118; refine (make_ok _ _ _ (by omega) (by omega) (by omega) (by omega)).mono ?_; rintro e w' ⟨rfl, rfl⟩)
  go_ret
  exact ⟨ret_int (by omega), rfl⟩

end Go.Proofs.Ytlmcfclonncgbaa
