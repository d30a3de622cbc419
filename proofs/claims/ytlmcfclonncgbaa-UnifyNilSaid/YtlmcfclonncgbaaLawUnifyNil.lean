/- The walk of the law UnifyNil: of no heap, no trail. -/
import Derived.Test.YtlmcfclonncgbaaPk11
namespace Go.Proofs.Ytlmcfclonncgbaa
open Go.RowKit
set_option linter.unusedVariables false
set_option linter.unusedSimpArgs false

theorem uunify_nil (p : Value) (t : Option Addr) (hp : p = .pointer none ∨ ((∃ b, p = .pointer (some ⟨b, 0, none⟩)) ∧ t = none)) (a b : Int) (w : World) : Calls Try.prog 65 #[p, .pointer t, .int .u64 a, .int .u64 b] w (Quiet w (.tuple #[.bool false, .int .i64 1])) := by
  rcases hp with rfl | ⟨⟨q, rfl⟩, rfl⟩
  · exact uunify_nilh t a b w
  · exact uunify_nilt q a b w
theorem ubind_nil (p : Value) (t : Option Addr) (hp : p = .pointer none ∨ ((∃ b, p = .pointer (some ⟨b, 0, none⟩)) ∧ t = none)) (a b : Int) (w : World) : Calls Try.prog 78 #[p, .pointer t, .int .u64 a, .int .u64 b] w (Quiet w (.bool false)) := by
  rcases hp with rfl | ⟨⟨q, rfl⟩, rfl⟩
  · exact ubind_nilh t a b w
  · exact ubind_nilt q a b w
set_option maxRecDepth 100000 in
set_option maxHeartbeats 2000000 in
theorem unifyNil_walk (a : Int) (wa : (Lit.int .u64 a).wf = true) (b : Int) (wb : (Lit.int .u64 b).wf = true) (w : World) :
    Calls Try.prog 20 #[.int .u64 a, .int .u64 b] w fun e w' => e = .returned (.bool true) ∧ Below w.heap.size w w' := by
  clear wa wb
  go_enter Try.func20, Try.ntmps20
  go_wp2_with fail
  refine (new_any own0 1 5 _).mono ?_
  rintro e1 w1 ⟨own1, x1, rfl, hlt1, h1⟩
  obtain ⟨p, hp⟩ : ∃ p, w.heap.size = p := ⟨_, rfl⟩
  replace h1 : HP own1 1 w1 w.heap.size 5 [] := h1
  rw [hp] at h1 ⊢
  go_wp2_with fail
  refine (tnew_any own1 2 _).mono ?_
  rintro e2 w2 ⟨own2, x2, rfl, hlt2, t2⟩
  have h2 := h1.keep x2 (by decide)
  clear hlt1 hlt2 hp
  go_wp2_with (first
    | (go_at_call 82; refine (var_room own2 1 p 5 [] _ h2 (by decide)).mono ?_; rintro e3 w3 ⟨own3, x3, rfl, h3⟩)
    | (go_at_call 65; refine (uunify_nil _ _ (by first | exact Or.inl rfl | exact Or.inr ⟨⟨_, rfl⟩, rfl⟩) _ _ _).mono ?_; rintro e w' ⟨rfl, n4, rfl⟩)
    | (go_at_call 80; refine (uoccurs_nil _ _ _).mono ?_; rintro e w' ⟨rfl, n5, rfl⟩)
    | (go_at_call 78; refine (ubind_nil _ _ (by first | exact Or.inl rfl | exact Or.inr ⟨⟨_, rfl⟩, rfl⟩) _ _ _).mono ?_; rintro e w' ⟨rfl, n6, rfl⟩)
    | (go_at_call 63; refine (awake8_any _).mono ?_; rintro e30 w30 ⟨rfl, hb30⟩))
  go_ret
  exact ⟨rfl, (((((Ext.refl own0 [1, 2] w).trans (x1.mono (by decide))).trans (x2.mono (by decide))).trans (x3.mono (by decide))).drewN _).belowStep hb30 |>.below (fun _ _ => rfl) (by decide)⟩

end Go.Proofs.Ytlmcfclonncgbaa
