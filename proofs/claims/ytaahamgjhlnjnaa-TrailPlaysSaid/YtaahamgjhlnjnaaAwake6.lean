/- Layer 6's laws share this: the calls that every program must know (awake). -/
import Derived.Test.YtaahamgjhlnjnaaTrailSet
import Derived.Test.YtaahamgjhlnjnaaTrail2
namespace Go.Proofs.Ytaahamgjhlnjnaa
open Go.RowKit
set_option linter.unusedVariables false

set_option maxHeartbeats 1600000 in
theorem awake6_any (w : World) : Calls Try.prog 62 #[] w fun e w' => e = .returned (.bool true) ∧ Below w.heap.size w w' := by
  go_enter Try.func62, Try.ntmps62
  go_wp2_with fail
  refine (new_any (fun _ => 0) 1 9 _).mono ?_
  rintro e w1 ⟨own1, x1, rfl, hlt1, h1⟩
  generalize w.heap.size = p at *
  go_wp2_with fail
  refine (tnew_any own1 2 _).mono ?_
  rintro e w2 ⟨own2, x2, rfl, hlt2, t2⟩
  have h2 := h1.keep x2 (by decide)
  generalize w1.heap.size = q at *
  have y2 := (x1.mono (by decide)).trans (x2.mono (jds := [1, 2]) (by decide))
  clear x1 x2 h1 hlt1 hlt2
  go_wp2_with fail
  refine (push_room own2 1 p 9 5 [] _ h2 (by decide)).mono ?_
  rintro e w3 ⟨own3, x3, rfl, h3⟩
  have t3 := t2.keep x3 (by decide)
  replace h3 : HP own3 1 w3 p 9 [5] := h3
  go_wp2_with fail
  refine (tset_in own3 1 2 p q 9 0 6 [5] [] _ h3 t3 (by decide) (by decide) (by decide) (by decide)).mono ?_
  rintro e w4 ⟨own4, x4, rfl, h4, t4⟩
  replace h4 : HP own4 1 w4 p 9 [6] := h4
  replace t4 : TP own4 2 w4 q [(0, 5)] := t4
  go_wp2_with fail
  refine (tset_in own4 1 2 p q 9 0 7 [6] [(0, 5)] _ h4 t4 (by decide) (by decide) (by decide) (by decide)).mono ?_
  rintro e w5 ⟨own5, x5, rfl, h5, t5⟩
  replace h5 : HP own5 1 w5 p 9 [7] := h5
  replace t5 : TP own5 2 w5 q [(0, 5), (0, 6)] := t5
  go_wp2_with fail
  refine (tundo_in own5 1 2 p q 9 0 [7] [(0, 5), (0, 6)] _ h5 t5 (by decide) (by decide) (by decide) (by decide)).mono ?_
  rintro e w6 ⟨own6, x6, rfl, h6, t6⟩
  replace h6 : HP own6 1 w6 p 9 [5] := h6
  go_wp2_with fail
  refine (get_in own6 1 p 9 0 [5] _ h6 (by decide) (by decide)).mono ?_
  rintro e w7 ⟨rfl, n, rfl⟩
  go_wp2_with fail
  go_ret
  refine ⟨rfl, ?_⟩
  exact ((((y2.trans (x3.mono (by decide))).trans x4).trans x5).trans x6 |>.drewN n).below (fun _ _ => rfl) (by decide)

end Go.Proofs.Ytaahamgjhlnjnaa
