/- A row of terms that one's own calls have let grow becomes a slice of terms that is nobody's to write. -/
import Derived.Test.YtlmcfclonncgbaaMakes
import Derived.Test.YtlmcfclonncgbaaMay2
import Derived.Test.YtlmcfclonncgbaaHeld2
namespace Go.Proofs.Ytlmcfclonncgbaa
open Go.RowKit
set_option linter.unusedVariables false
set_option linter.unusedSimpArgs false

theorem wp_calmN {P : Program} {c : Code} {Q : Exit → Act → World → Prop} {a : Act} {w : World} (h : c.wp P (Exit.then (fun a w => Q .normal a w) (fun _ _ _ => False)) a w) : c.wp P Q a w := by
  intro b k cs
  obtain ⟨e, a', w', q, r⟩ := h b k cs
  refine ⟨e, a', w', ?_, r⟩
  cases e <;> first | exact q | exact q.elim
def termCells (l : List (Tm × Value)) : List Value := l.flatMap fun z => cellsT z.1 z.2
theorem termCells_length (l : List (Tm × Value)) : (termCells l).length = l.length * 6 := by
  induction l with
  | nil => rfl
  | cons x l ih => simp only [termCells, List.flatMap_cons, List.length_append] at *; rw [ih]; simp [cellsT]; omega
theorem termCells_append (a b : List (Tm × Value)) : termCells (a ++ b) = termCells a ++ termCells b := by simp [termCells]
theorem info_term : (Try.prog.info? 25).map (fun i => (i.zero, i.size, i.bytes)) = some (some (.agg #[.int .i64 0, .string ByteArray.empty, .int .i64 0, .int .u64 0, .int .u64 0, .slice none 0 0]), 6, 72) := by kernel_rfl
theorem cellsT_one (t : Tm) (A : Option Addr) (len cap : Nat) : ∀ u ∈ cellsT t (.slice A len cap), u.oneCell' = true := by
  intro u hu
  simp [cellsT] at hu
  rcases hu with rfl | rfl | rfl | rfl | rfl | rfl <;> rfl
section
variable {own : Nat → Nat} {w : World}
mutual
theorem TmS.give (g : Nat) : ∀ (t : Tm) (sl : Value), TmS own w t sl → TmS (give own g 0) w t sl
  | .mk k s n re im args, sl, h => by
    obtain ⟨h0, A, len, cap, h1, h2, h3, h4, h5⟩ := h
    exact ⟨h0, A, len, cap, h1, h2, h3, h4, TmE.give g A 0 args h5⟩
theorem TmE.give (g : Nat) (A : Option Addr) : ∀ (i : Nat) (l : List Tm), TmE own w A i l → TmE (_root_.Go.Proofs.Ytlmcfclonncgbaa.give own g 0) w A i l
  | _, [], _ => trivial
  | i, t :: ts, ⟨⟨b, o, sl, h1, h2, h3, h4, h5⟩, h6⟩ =>
    ⟨⟨b, o, sl, h1, h2, by unfold _root_.Go.Proofs.Ytlmcfclonncgbaa.give; split <;> simp_all, TmS.give g t sl h4, h5⟩, TmE.give g A (i + 1) ts h6⟩
end
end
/-- The row given away. -/
theorem Row.terms {own : Nat → Nat} {id : Nat} {w : World} {v : Value} {l : List (Tm × Value)} (hr : Row own id w 25 6 v l.length (termCells l)) (hT : ∀ z ∈ l, TmS own w z.1 z.2) :
    ∃ own' A cap, v = .slice A l.length cap ∧ TmL own' w (l.map (·.1)) A l.length cap ∧ (∀ b, own b ≠ id → own' b = own b) ∧ ∀ (o : Nat → Nat) (ids : List Nat) (w0 : World), Ext o own ids w0 w → (∀ b, b < w0.heap.size → o b ≠ id) → Ext o own' ids w0 w := by
  rcases hr.1.2 with ⟨rfl, hn⟩ | ⟨g, cap, cur, rfl, hg, hh, hnc, hcm, _⟩
  · have hl : l = [] := List.eq_nil_of_length_eq_zero hn
    subst hl
    exact ⟨own, none, 0, rfl, TmL.nil, fun _ _ => rfl, fun o ids w0 x _ => x⟩
  · have hgid : own g = id := hr.2 g rfl
    have hlt : g < w.heap.size := hr.lt g rfl
    refine ⟨give own g 0, some ⟨g, 0, none⟩, cap, rfl, ⟨by simp, hnc, hcm, TmE.of _ _ fun j t ht => ?_⟩, fun b hb => by unfold give; rw [if_neg (fun e : b = g => hb (by rw [e]; exact hgid))], fun o ids w0 x hx => ⟨x.os, x.tape, x.output, x.size, fun b hb => ?_, x.block⟩⟩
    · rw [List.getElem?_map] at ht
      cases hz : l[j]? with
      | none => rw [hz] at ht; simp at ht
      | some z =>
        rw [hz] at ht
        simp at ht
        subst ht
        refine ⟨g, 0, z.2, rfl, hlt, give_same _ _ _, TmS.give g z.1 _ (hT z (List.mem_of_getElem? hz)), fun q u hu => ?_⟩
        have := hr.cell ((0 + j) * 6 + q) (by rw [Nat.zero_add]; exact flat6 l j z hz q u hu)
        rwa [Nat.zero_add]
    · unfold give
      rw [if_neg (fun e : b = g => ?_)]
      · exact x.own b hb
      · subst e
        exact hx b hb ((x.own b hb).symm.trans hgid)
theorem kargs {t : Tm} (h : Kinds t) : t.kind = 5 → ∀ a ∈ t.args, Kinds a := by
  cases h with
  | leaf h1 h4 => intro h5; have h5' : _ = (5 : Int) := h5; dsimp only [Tm.kind] at h5'; omega
  | comp h => exact fun _ => h
theorem fargs : ∀ (l : List Tm), fines (cls l) → ∀ a ∈ l, fine (cl a)
  | [], _, a, ha => by simp at ha
  | b :: l, h, a, ha => by
    rcases List.mem_cons.1 ha with rfl | ha
    · exact h.1
    · exact fargs l h.2 a ha
theorem fine_comp {n re im : Int} {s : ByteArray} {args : List Tm} (h : fine (cl (.mk 5 s n re im args))) : 1 ≤ args.length ∧ args.length ≤ 20 ∧ ∀ a ∈ args, fine (cl a) := by
  have e : cl (.mk 5 s n re im args) = .comp s (cls args) := rfl
  rw [e] at h
  obtain ⟨_, h1, h2, h3⟩ := h
  rw [cls_length] at h1 h2
  exact ⟨h1, h2, fargs args h3⟩
theorem fine_slim {t : Tm} (h : fine (cl t)) : t.kind = 5 → t.args.length ≤ 20 ∧ ∀ a ∈ t.args, fine (cl a) := by
  obtain ⟨k, s, n, re, im, args⟩ := t
  intro h5
  obtain rfl : k = 5 := h5
  exact (fine_comp h).2
theorem take_step {α β : Type} (f : α → β) (l : List α) (j : Nat) (t : α) (h : l[j]? = some t) : (l.take j).map f ++ [f t] = (l.take (j + 1)).map f := by
  rw [List.take_add_one, h]; simp
/-- What a function that makes terms answers. -/
def MadeT (own : Nat → Nat) (w : World) (c : CT) : Ending → World → Prop := Does own [] w fun own' e w' => ∃ A len cap, e = .returned (valT (un c) (.slice A len cap)) ∧ TmS own' w' (un c) (.slice A len cap)

end Go.Proofs.Ytlmcfclonncgbaa
