/- The cells' calls (package cell, and the reference's), each by a contract: what it answers; the world stays. -/
import Derived.Test.YtlmcfclonncgbaaRows
import Derived.Test.YtlmcfclonncgbaaBits
import Derived.WalkKit
import Derived.WalkLawsBesides
namespace Go.Proofs.Ytlmcfclonncgbaa
open Go.RowKit

theorem ret_int {k : IntKind} {a b : Int} (h : a = b) : Ending.returned (.int k a) = .returned (.int k b) := by rw [h]
theorem ret_pair {k : IntKind} {a b : Int} {v : Value} (h : a = b) : Ending.returned (.tuple #[.int k a, v]) = .returned (.tuple #[.int k b, v]) := by rw [h]
theorem tag_any (c : Int) (w : World) : Calls Try.prog 126 #[.int .u64 c] w fun e w' => e = .returned (.int .i64 (c % 8)) ∧ w' = w := by
  go_enter Try.func126, Try.ntmps126
  go_wp2
  go_ret
  exact ⟨ret_int (by rw [and7', wrap64_in _ (by omega) (by omega)]), rfl⟩
theorem rtag_any (c : Int) (w : World) : Calls Try.prog 133 #[.int .u64 c] w fun e w' => e = .returned (.int .i64 (c % 8)) ∧ w' = w := by
  go_enter Try.func133, Try.ntmps133
  go_wp2
  go_ret
  exact ⟨ret_int (by rw [and7', wrap64_in _ (by omega) (by omega)]), rfl⟩
theorem value_any (c : Int) (w : World) : Calls Try.prog 111 #[.int .u64 c] w fun e w' => e = .returned (.int .u64 (c / 8)) ∧ w' = w := by
  go_enter Try.func111, Try.ntmps111
  go_wp2
  go_ret
  exact ⟨rfl, rfl⟩
theorem rvalue_any (c : Int) (w : World) : Calls Try.prog 132 #[.int .u64 c] w fun e w' => e = .returned (.int .u64 (c / 8)) ∧ w' = w := by
  go_enter Try.func132, Try.ntmps132
  go_wp2
  go_ret
  exact ⟨rfl, rfl⟩
theorem make_ok (t n : Int) (w : World) (h0 : 0 ≤ t) (h1 : t ≤ 6) (h2 : 0 ≤ n) (h3 : n < 2305843009213693952) :
    Calls Try.prog 118 #[.int .i64 t, .int .u64 n] w fun e w' => e = .returned (.tuple #[.int .u64 (n * 8 + t), .bool true]) ∧ w' = w := by
  go_enter Try.func118, Try.ntmps118
  go_wp2
  go_ret2
  exact ⟨ret_pair (or3 _ _ (by omega) (by omega) (by omega) (by omega) (by omega)), rfl⟩
theorem rmake_any (t n : Int) (w : World) (h0 : 0 ≤ t) (h1 : t ≤ 7) (h2 : 0 ≤ n) (h3 : n < 2305843009213693952) :
    Calls Try.prog 85 #[.int .i64 t, .int .u64 n] w fun e w' => e = .returned (.int .u64 (n * 8 + t)) ∧ w' = w := by
  go_enter Try.func85, Try.ntmps85
  go_wp2
  go_ret
  exact ⟨ret_int (or3 _ _ (by omega) (by omega) (by omega) (by omega) (by omega)), rfl⟩

end Go.Proofs.Ytlmcfclonncgbaa
