/- The cells' calls (package cell, and the reference's), each by a contract: what it answers; the world stays. -/
import Derived.Test.YtaahamgjhlnjnaaRows
import Derived.Test.YtaahamgjhlnjnaaBits
import Derived.WalkKit
import Derived.WalkLawsBesides
namespace Go.Proofs.Ytaahamgjhlnjnaa
open Go.RowKit

theorem ret_int {k : IntKind} {a b : Int} (h : a = b) : Ending.returned (.int k a) = .returned (.int k b) := by rw [h]
theorem ret_pair {k : IntKind} {a b : Int} {v : Value} (h : a = b) : Ending.returned (.tuple #[.int k a, v]) = .returned (.tuple #[.int k b, v]) := by rw [h]
theorem tag_any (c : Int) (w : World) : Calls Try.prog 30 #[.int .u64 c] w fun e w' => e = .returned (.int .i64 (c % 8)) ∧ w' = w := by
  go_enter Try.func30, Try.ntmps30
  go_wp2
  go_ret
  exact ⟨ret_int (by rw [and7', wrap64_in _ (by omega) (by omega)]), rfl⟩
theorem rtag_any (c : Int) (w : World) : Calls Try.prog 31 #[.int .u64 c] w fun e w' => e = .returned (.int .i64 (c % 8)) ∧ w' = w := by
  go_enter Try.func31, Try.ntmps31
  go_wp2
  go_ret
  exact ⟨ret_int (by rw [and7', wrap64_in _ (by omega) (by omega)]), rfl⟩
theorem value_any (c : Int) (w : World) : Calls Try.prog 32 #[.int .u64 c] w fun e w' => e = .returned (.int .u64 (c / 8)) ∧ w' = w := by
  go_enter Try.func32, Try.ntmps32
  go_wp2
  go_ret
  exact ⟨rfl, rfl⟩
theorem rvalue_any (c : Int) (w : World) : Calls Try.prog 33 #[.int .u64 c] w fun e w' => e = .returned (.int .u64 (c / 8)) ∧ w' = w := by
  go_enter Try.func33, Try.ntmps33
  go_wp2
  go_ret
  exact ⟨rfl, rfl⟩
theorem make_ok (t n : Int) (w : World) (h0 : 0 ≤ t) (h1 : t ≤ 6) (h2 : 0 ≤ n) (h3 : n < 2305843009213693952) :
    Calls Try.prog 28 #[.int .i64 t, .int .u64 n] w fun e w' => e = .returned (.tuple #[.int .u64 (n * 8 + t), .bool true]) ∧ w' = w := by
  go_enter Try.func28, Try.ntmps28
  go_wp2
  go_ret2
  exact ⟨ret_pair (or3 _ _ (by omega) (by omega) (by omega) (by omega) (by omega)), rfl⟩
theorem rmake_any (t n : Int) (w : World) (h0 : 0 ≤ t) (h1 : t ≤ 7) (h2 : 0 ≤ n) (h3 : n < 2305843009213693952) :
    Calls Try.prog 29 #[.int .i64 t, .int .u64 n] w fun e w' => e = .returned (.int .u64 (n * 8 + t)) ∧ w' = w := by
  go_enter Try.func29, Try.ntmps29
  go_wp2
  go_ret
  exact ⟨ret_int (or3 _ _ (by omega) (by omega) (by omega) (by omega) (by omega)), rfl⟩

end Go.Proofs.Ytaahamgjhlnjnaa
