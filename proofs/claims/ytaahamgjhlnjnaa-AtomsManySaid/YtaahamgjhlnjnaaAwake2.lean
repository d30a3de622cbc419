/- Layer 2's laws share this: the calls that every program must know (awake). -/
import Derived.Test.YtaahamgjhlnjnaaAtoms2
namespace Go.Proofs.Ytaahamgjhlnjnaa
open Go.RowKit
set_option linter.unusedVariables false

set_option maxHeartbeats 800000 in
theorem awake2_any (w : World) : Calls Try.prog 38 #[] w fun e w' => e = .returned (.bool true) ∧ Below w.heap.size w w' := by
  go_enter Try.func38, Try.ntmps38
  go_wp2_with fail
  refine (anew_any own0 1 2 _ (by decide)).mono ?_
  rintro e w1 ⟨o1, p, x1, rfl, _, _, h1⟩
  replace x1 := x1.mono (jds := [1, 2]) (by simp)
  go_wp2_with fail
  refine (anumber_any o1 1 2 p ⟨#[97]⟩ _ _ h1 (by decide)).mono ?_
  rw [show numN names0 ⟨#[97]⟩ = 2 from by decide, show numE names0 ⟨#[97]⟩ = 0 from by decide, show numL names0 ⟨#[97]⟩ = names0 ++ [⟨#[97]⟩] from by decide]
  rintro e w2 ⟨o2, x2, rfl, h2⟩
  replace x2 := x1.trans x2
  clear x1 h1
  go_wp2_with fail
  refine (anumber_any o2 1 2 p ⟨#[91, 93]⟩ _ _ h2 (by decide)).mono ?_
  rw [show numN (names0 ++ [⟨#[97]⟩]) ⟨#[91, 93]⟩ = 0 from by decide, show numE (names0 ++ [⟨#[97]⟩]) ⟨#[91, 93]⟩ = 0 from by decide, show numL (names0 ++ [⟨#[97]⟩]) ⟨#[91, 93]⟩ = names0 ++ [⟨#[97]⟩] from by decide]
  rintro e w3 ⟨o3, x3, rfl, h3⟩
  replace x3 := x2.trans x3
  clear x2 h2
  go_wp2_with fail
  refine (anumber_any o3 1 2 p ⟨#[97]⟩ _ _ h3 (by decide)).mono ?_
  rw [show numN (names0 ++ [⟨#[97]⟩]) ⟨#[97]⟩ = 2 from by decide, show numE (names0 ++ [⟨#[97]⟩]) ⟨#[97]⟩ = 0 from by decide, show numL (names0 ++ [⟨#[97]⟩]) ⟨#[97]⟩ = names0 ++ [⟨#[97]⟩] from by decide]
  rintro e w4 ⟨o4, x4, rfl, h4⟩
  replace x4 := x3.trans x4
  clear x3 h3
  go_wp2_with fail
  go_ret
  exact ⟨rfl, x4.below (fun _ _ => rfl) (by decide)⟩

end Go.Proofs.Ytaahamgjhlnjnaa
