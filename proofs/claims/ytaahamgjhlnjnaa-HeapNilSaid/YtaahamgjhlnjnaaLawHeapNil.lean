/- The walk of the law HeapNil: each call on a heap that there isn't answers as it must. -/
import Derived.Test.YtaahamgjhlnjnaaAwake5
namespace Go.Proofs.Ytaahamgjhlnjnaa
open Go.RowKit

set_option linter.unusedVariables false in
set_option maxHeartbeats 800000 in
theorem heapNil_walk (n : Int) (wn : (Lit.int .i64 n).wf = true) (c : Int) (wc : (Lit.int .u64 c).wf = true) (w : World) :
    Calls Try.prog 24 #[.int .i64 n, .int .u64 c] w fun e w' => e = .returned (.bool true) ∧ Below w.heap.size w w' := by
  clear wn wc
  go_enter Try.func24, Try.ntmps24
  go_wp2_with (first | (go_at_call 52; refine (push_nil _ _).mono ?_; rintro e w' ⟨rfl, n, rfl⟩) | (go_at_call 49; refine (var_nil _).mono ?_; rintro e w' ⟨rfl, n, rfl⟩) | (go_at_call 55; refine (get_nil _ _).mono ?_; rintro e w' ⟨rfl, n, rfl⟩) | (go_at_call 54; refine (set_nil _ _ _).mono ?_; rintro e w' ⟨rfl, n, rfl⟩) | (go_at_call 53; refine (len_nil _).mono ?_; rintro e w' ⟨rfl, n, rfl⟩) | (go_at_call 50; refine (cut_nil _ _).mono ?_; rintro e w' ⟨rfl, n, rfl⟩) | (go_at_call 56; refine (deref_nil _ _).mono ?_; rintro e w' ⟨rfl, n, rfl⟩) | (go_at_call 74; refine (most_nil _).mono ?_; rintro e w' ⟨rfl, n, rfl⟩) | (go_at_call 51; refine (awake5_any _).mono ?_; rintro e w' ⟨rfl, hb⟩))
  go_ret
  exact ⟨rfl, below_ofDrew hb⟩

end Go.Proofs.Ytaahamgjhlnjnaa
