/- A heap in a world with one block more; a block that is the call's own. -/
import Derived.Test.YtlmcfclonncgbaaHeap
import Derived.Test.YtlmcfclonncgbaaMem2
namespace Go.Proofs.Ytlmcfclonncgbaa
open Go.RowKit
set_option linter.unusedVariables false

theorem HP.alloc {own : Nat → Nat} {id p : Nat} {w : World} {most : Int} {l : List Int} (h : HP own id w p most l) (o : Obj) : HP own id (w.alloc o) p most l := by
  obtain ⟨v, hb, hr, h1, h2⟩ := h
  exact ⟨v, hb.alloc o, hr.alloc o, h1, h2⟩
/-- A block of the call's own: a box. -/
theorem Ext.box {o o' : Nat → Nat} {ids : List Nat} {w w' : World} (h : Ext o o' ids w w') (cs : List Value) (t id : Nat) :
    Ext o (_root_.Go.Proofs.Ytlmcfclonncgbaa.give o' w'.heap.size id) ids w (w'.alloc (.cells cs.toArray t)) ∧ Blk (_root_.Go.Proofs.Ytlmcfclonncgbaa.give o' w'.heap.size id) id (w'.alloc (.cells cs.toArray t)) w'.heap.size cs t ∧ Ext o' (_root_.Go.Proofs.Ytlmcfclonncgbaa.give o' w'.heap.size id) [] w' (w'.alloc (.cells cs.toArray t)) := by
  have hb : Blk (_root_.Go.Proofs.Ytlmcfclonncgbaa.give o' w'.heap.size id) id (w'.alloc (.cells cs.toArray t)) w'.heap.size cs t := ⟨heap_alloc_new _ _, give_same _ _ _⟩
  exact ⟨(h.alloc _).give _ _ h.size, hb, ((Ext.refl o' [] w').alloc _).give _ _ (Nat.le_refl _)⟩

/-- Some owner that has nothing yet. -/
theorem fresh_owner (own : Nat → Nat) : ∀ n : Nat, ∃ F, ∀ b, b < n → own b < F
  | 0 => ⟨0, fun b h => by omega⟩
  | n + 1 => by
    obtain ⟨F, h⟩ := fresh_owner own n
    refine ⟨F + own n + 1, fun b hb => ?_⟩
    by_cases e : b = n
    · subst e; omega
    · have := h b (by omega); omega
/-- A row that a fresh owner made is anyone's. -/
theorem Row.anyone {own own1 : Nat → Nat} {F id : Nat} {w w' : World} {e : TypeId} {size n : Nat} {v : Value} {xs : List Value} (x : Ext own own1 [F] w w') (hF : ∀ b, b < w.heap.size → own b < F) (h : Row own1 F w' e size v n xs) :
    ∃ own2, Ext own own2 [] w w' ∧ Row own2 id w' e size v n xs := by
  refine ⟨fun b => if b < w.heap.size then own b else id, ⟨x.os, x.tape, x.output, x.size, fun b hb => if_pos hb, fun b hb _ => x.block b hb (by have := hF b hb; simp; omega)⟩, h.1, fun k hk => if_neg ?_⟩
  intro hlt
  have h1 := h.2 k hk
  have h2 := x.own k hlt
  have h3 := hF k hlt
  omega

end Go.Proofs.Ytlmcfclonncgbaa
