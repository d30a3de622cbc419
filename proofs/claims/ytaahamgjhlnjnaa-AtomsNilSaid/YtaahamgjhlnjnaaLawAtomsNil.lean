/- The walk of the law AtomsNil: each call on a table that there isn't answers as it must. -/
import Derived.Test.YtaahamgjhlnjnaaAwake2
namespace Go.Proofs.Ytaahamgjhlnjnaa
open Go.RowKit
set_option linter.unusedVariables false

set_option maxHeartbeats 800000 in
theorem atomsNil_walk (s : ByteArray) (hs : s.size ≤ 140737488351232) (n : Int) (wn : (Lit.int .i64 n).wf = true) (w : World) :
    Calls Try.prog 12 #[.string s, .int .i64 n] w fun e w' => e = .returned (.bool true) ∧ Below w.heap.size w w' := by
  clear hs wn
  go_enter Try.func12, Try.ntmps12
  go_wp2_with (first | (go_at_call 36; refine (anumber_nil _ _).mono ?_; rintro e w' ⟨rfl, n, rfl⟩) | (go_at_call 44; refine (afind_nil _ _).mono ?_; rintro e w' ⟨rfl, n, rfl⟩) | (go_at_call 43; refine (aname_nil _ _).mono ?_; rintro e w' ⟨rfl, n, rfl⟩) | (go_at_call 37; refine (alen_nil _).mono ?_; rintro e w' ⟨rfl, n, rfl⟩) | (go_at_call 38; refine (awake2_any _).mono ?_; rintro e w' ⟨rfl, hb⟩))
  go_ret
  exact ⟨rfl, below_ofDrew hb⟩

end Go.Proofs.Ytaahamgjhlnjnaa
