/- Layer 5's laws share this: the cell of a reference, and the calls that every program must know (awake). -/
import Derived.Test.YtaahamgjhlnjnaaDeref
import Derived.Test.YtaahamgjhlnjnaaMem2
namespace Go.Proofs.Ytaahamgjhlnjnaa
open Go.RowKit

theorem ref5_any (n : Int) (w : World) (h0 : 0 ≤ n) (h1 : n < 2305843009213693952) : Calls Try.prog 67 #[.int .i64 n] w fun e w' => e = .returned (.int .u64 (n * 8)) ∧ w' = w := by
  go_enter Try.func67, Try.ntmps67
  go_wp2_with (go_at_call 29; refine (rmake_any _ _ _ (by omega) (by omega) (by omega) (by omega)).mono ?_; rintro e w' ⟨rfl, rfl⟩)
  go_ret
  exact ⟨ret_int (by omega), rfl⟩

set_option maxHeartbeats 800000 in
theorem awake5_any (w : World) : Calls Try.prog 51 #[] w fun e w' => e = .returned (.bool true) ∧ Below w.heap.size w w' := by
  go_enter Try.func51, Try.ntmps51
  go_wp2_with fail
  refine (new_any (fun _ => 0) 1 9 _).mono ?_
  rintro e w1 ⟨own1, x1, rfl, hlt, h1⟩
  generalize w.heap.size = p at *
  go_wp2_with fail
  refine (var_room own1 1 p 9 [] _ h1 (by decide)).mono ?_
  rintro e w2 ⟨own2, x2, rfl, h2⟩
  go_wp2_with fail
  refine (ref5_any 0 _ (by decide) (by decide)).mono ?_
  rintro e w' ⟨rfl, rfl⟩
  go_wp2_with fail
  refine (push_room own2 1 p 9 0 _ _ h2 (by decide)).mono ?_
  rintro e w3 ⟨own3, x3, rfl, h3⟩
  replace h3 : HP own3 1 w3 p 9 [0, 0] := h3
  go_wp2_with fail
  refine (ref5_any 1 _ (by decide) (by decide)).mono ?_
  rintro e w' ⟨rfl, rfl⟩
  go_wp2_with fail
  refine (deref_any own3 1 p 9 8 _ _ h3 (by decide) (by decide)).mono ?_
  rintro e w4 ⟨rfl, n, rfl⟩
  rw [show deref [0, 0] 8 = 0 from by decide]
  go_wp2_with fail
  refine (ref5_any 0 _ (by decide) (by decide)).mono ?_
  rintro e w' ⟨rfl, rfl⟩
  go_wp2_with fail
  go_ret
  refine ⟨rfl, ?_⟩
  exact ((((x1.mono (by decide)).trans x2).trans x3).drewN n).below (fun _ _ => rfl) (by decide)

end Go.Proofs.Ytaahamgjhlnjnaa
