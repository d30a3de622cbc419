/- The walk of the law TrailNil: each call on a trail that there isn't answers as it must. -/
import Derived.Test.YtaahamgjhlnjnaaAwake6
namespace Go.Proofs.Ytaahamgjhlnjnaa
open Go.RowKit
set_option linter.unusedVariables false

set_option maxHeartbeats 1600000 in
theorem trailNil_walk (n : Int) (wn : (Lit.int .i64 n).wf = true) (c : Int) (wc : (Lit.int .u64 c).wf = true) (w : World) :
    Calls Try.prog 16 #[.int .i64 n, .int .u64 c] w fun e w' => e = .returned (.bool true) ∧ Below w.heap.size w w' := by
  have hn := wf_i64 wn
  clear wn wc
  go_enter Try.func16, Try.ntmps16
  go_wp2_with fail
  refine (new_any (fun _ => 0) 1 5 _).mono ?_
  rintro e w1 ⟨own1, x1, rfl, hlt1, h1⟩
  generalize w.heap.size = p at *
  go_wp2_with fail
  refine (push_room own1 1 p 5 1 [] _ h1 (by decide)).mono ?_
  rintro e w3 ⟨own3, x3, rfl, h3⟩
  replace h3 : HP own3 1 w3 p 5 [1] := h3
  go_wp2_with fail
  refine (tset_nil own3 1 p 5 0 c [1] _ h3).mono ?_
  rintro e w4 ⟨rfl, n4, rfl⟩
  go_wp2_with (first | (go_at_call 58; refine (tmark_nil _).mono ?_; rintro e w' ⟨rfl, n, rfl⟩) | (go_at_call 60; refine (tlen_nil _).mono ?_; rintro e w' ⟨rfl, n, rfl⟩) | (go_at_call 61; refine (tdrop_nil _ _ hn.1 hn.2).mono ?_; rintro e w' ⟨rfl, n, rfl⟩) | (go_at_call 59; refine (tundo_nil _ _ _ hn.1 hn.2).mono ?_; rintro e w' ⟨rfl, n, rfl⟩) | (go_at_call 62; refine (awake6_any _).mono ?_; rintro e w' ⟨rfl, hb⟩))
  go_ret
  refine ⟨rfl, ?_⟩
  exact ((x1.mono (by decide)).trans x3).belowStep (below_ofDrew hb) |>.below (fun _ _ => rfl) (by decide)

end Go.Proofs.Ytaahamgjhlnjnaa
