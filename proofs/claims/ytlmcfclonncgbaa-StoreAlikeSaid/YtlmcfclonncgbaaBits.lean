/- Bit operations on 64-bit words, said as sums and remainders; a cell's word: its tag and its value. -/
import Derived.RowKit3
import Derived.Laws.BitsLemmas
namespace Go.Proofs.Ytlmcfclonncgbaa
open Go.RowKit

theorem wrap_u64 (n : Int) : IntKind.u64.wrap n = n % 18446744073709551616 := by simp [IntKind.wrap, IntKind.bits, IntKind.signed]
theorem wraps_u64 (n : Int) (h0 : 0 ≤ n) (h1 : n < 2 ^ 64) : IntKind.u64.wrap n = n := by rw [wrap_u64]; omega
theorem wraps_u64' (n : Int) (h0 : 0 ≤ n) (h1 : n < 18446744073709551616) : IntKind.u64.wrap n = n := by rw [wrap_u64]; omega
theorem wrap64_in (n : Int) (h0 : -9223372036854775808 ≤ n) (h1 : n < 9223372036854775808) : wrap64 n = n := by unfold wrap64; omega
theorem and7 (x : Int) (h0 : 0 ≤ x) (h1 : x < 18446744073709551616) : bits .and .u64 x 7 = x % 8 :=
  bits_mask .u64 64 (by decide) wraps_u64 3 (by decide) x h0 h1
/-- .. of any number: the walk's own term for a tag. -/
theorem and7' (x : Int) : bits .and .u64 x 7 = x % 8 := by
  have e : bits .and .u64 x 7 = bits .and .u64 (x % 18446744073709551616) 7 := by
    have h : BitVec.ofInt 64 x = BitVec.ofInt 64 (x % 18446744073709551616) := by
      apply BitVec.eq_of_toNat_eq
      rw [BitVec.toNat_ofInt, BitVec.toNat_ofInt]
      congr 1
      omega
    unfold bits
    simp only [IntKind.bits]
    rw [h]
  rw [e, and7 _ (by omega) (by omega)]
  omega
theorem and61 (x : Int) (h0 : 0 ≤ x) (h1 : x < 18446744073709551616) : bits .and .u64 x 2305843009213693951 = x % 2305843009213693952 :=
  bits_mask .u64 64 (by decide) wraps_u64 61 (by decide) x h0 h1
theorem or3 (x y : Int) (hx : 0 ≤ x) (hx1 : x < 18446744073709551616) (h8 : x % 8 = 0) (h0 : 0 ≤ y) (h1 : y < 8) : bits .or .u64 x y = x + y :=
  bits_join .u64 64 (by decide) wraps_u64 3 x y hx h8 hx1 h0 h1 (by omega)
theorem or8 (x y : Int) (hx : 0 ≤ x) (hx1 : x < 18446744073709551616) (h8 : x % 256 = 0) (h0 : 0 ≤ y) (h1 : y < 256) : bits .or .u64 x y = x + y :=
  bits_join .u64 64 (by decide) wraps_u64 8 x y hx h8 hx1 h0 h1 (by omega)
theorem wf_i64 {x : Int} (h : (Lit.int .i64 x).wf = true) : -9223372036854775808 ≤ x ∧ x ≤ 9223372036854775807 := by
  simpa [Lit.wf, IntKind.min, IntKind.max, IntKind.bits, IntKind.signed] using h
theorem wf_u64 {x : Int} (h : (Lit.int .u64 x).wf = true) : 0 ≤ x ∧ x ≤ 18446744073709551615 := by
  simpa [Lit.wf, IntKind.min, IntKind.max, IntKind.bits, IntKind.signed] using h
/-- A number's remainder by a number above 0, Go's, of one that is 0 or more. -/
theorem tmod_pos (x : Int) (m : Int) (h : 0 ≤ x) : Int.tmod x m = x % m := Int.tmod_eq_emod_of_nonneg h
theorem tdiv_pos (x : Int) (m : Int) (h : 0 ≤ x) : Int.tdiv x m = x / m := Int.tdiv_eq_ediv_of_nonneg h

end Go.Proofs.Ytlmcfclonncgbaa
