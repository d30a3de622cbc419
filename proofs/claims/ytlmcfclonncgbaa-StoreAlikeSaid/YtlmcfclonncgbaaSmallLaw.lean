/- How many cells a term takes, in plain terms. -/
import Derived.Test.YtlmcfclonncgbaaSmallWalk
import Derived.Test.YtlmcfclonncgbaaPutR
import Derived.Test.YtlmcfclonncgbaaPutS
namespace Go.Proofs.Ytlmcfclonncgbaa
open Go.RowKit
set_option linter.unusedVariables false
set_option linter.unusedSimpArgs false

theorem tms_ranged {own : Nat → Nat} {w : World} : ∀ (t : Tm) (sl : Value), TmS own w t sl → Kinds t → ranged (cl t) := by
  refine Tm.ind ?_
  intro k s n re im args ih sl h hk
  have hk15 : 1 ≤ k ∧ k ≤ 5 := by cases hk <;> omega
  have hr := h.rng
  rcases cl_cases k s n re im args hk15.1 hk15.2 with ⟨rfl, e⟩ | ⟨rfl, e⟩ | ⟨rfl, e⟩ | ⟨rfl, e⟩ | ⟨rfl, e⟩
  · rw [e]; trivial
  · rw [e]; trivial
  · rw [e]
    have h2 : -9223372036854775808 ≤ n ∧ n ≤ 9223372036854775807 := hr.2.1
    exact ⟨h2.1, by omega⟩
  · rw [e]
    have h3 : 0 ≤ re ∧ re < 18446744073709551616 := hr.2.2.1
    have h4 : 0 ≤ im ∧ im < 18446744073709551616 := hr.2.2.2.1
    exact ⟨h3.1, h4.1, h3.2, h4.2⟩
  · rw [e]
    obtain ⟨A, len, cap, rfl, hL⟩ := h.args
    have hka := kinds_args hk rfl
    have key : ∀ l : List Tm, (∀ a ∈ l, a ∈ args) → rangeds (cls l) := by
      intro l
      induction l with
      | nil => intro _; trivial
      | cons a l ih2 =>
        intro hl
        have ha : a ∈ args := hl a (by simp)
        obtain ⟨j, hj⟩ := List.getElem?_of_mem ha
        obtain ⟨b, o, sl', _, _, _, hT, _⟩ := TmE.get args 0 hL.2.2.2 j a hj
        exact ⟨ih a ha sl' hT (hka a ha), ih2 (fun x hx => hl x (by simp [hx]))⟩
    exact key args (fun _ h => h)
theorem cnt_size : ∀ (t : Tm), Kinds t → cntF t false = size (cl t) ∧ cntF t true = size (cl t) + topv [] (cl t) := by
  refine Tm.ind ?_
  intro k s n re im args ih hk
  have hk15 : 1 ≤ k ∧ k ≤ 5 := by cases hk <;> omega
  rcases cl_cases k s n re im args hk15.1 hk15.2 with ⟨rfl, e⟩ | ⟨rfl, e⟩ | ⟨rfl, e⟩ | ⟨rfl, e⟩ | ⟨rfl, e⟩
  · rw [e]; unfold cntF; simp [size, topv, look]
  · rw [e]; unfold cntF; simp [size, topv]
  · rw [e]; unfold cntF; simp [size, topv]
  · rw [e]; unfold cntF; simp [size, topv]
  · rw [e]
    have hka := kinds_args hk rfl
    have key : ∀ l : List Tm, (∀ a ∈ l, a ∈ args) → cntFs l = sizes (cls l) := by
      intro l
      induction l with
      | nil => intro _; rfl
      | cons a l ih2 =>
        intro hl
        have ha : a ∈ args := hl a (by simp)
        rw [cntFs_cons, (ih a ha (hka a ha)).1, ih2 (fun x hx => hl x (by simp [hx]))]
        rfl
    have h1 := key args (fun _ h => h)
    unfold cntF
    simp only [size, topv, cls_length, h1]
    simp
theorem inv0 : Inv (fun _ => False) (fun n => .var n) (fun _ => False) ⟨[], names0, []⟩ :=
  ⟨fun x hx => by simp at hx, names0_ok, fun p hp => hp.elim, fun n c h => by simp [look] at h, fun n c h => by simp [look] at h⟩
theorem topv_le (V : List (Int × Int)) (t : CT) : topv V t ≤ 1 := by unfold topv; split <;> (try split) <;> omega
/-- A term that may be, laid on an empty heap with room. -/
theorem put0_ok (most : Int) (t : Tm) (hm : mayE t = 0) (hr : ranged (cl t)) (hmost : 6001 ≤ most) : ∃ W' E' M, PutOk (cl t) (-1) (fun _ => False) (fun n => .var n) (fun _ => False) ⟨[], names0, []⟩ (putT most (cl t) (-1) ⟨[], names0, []⟩) W' E' (putT most (cl t) (-1) ⟨[], names0, []⟩).1.l M ∧ putR most t ⟨[], names0, []⟩ = putT most (cl t) (-1) ⟨[], names0, []⟩ := by
  obtain ⟨hk, hf, hd, hn⟩ := mayE_zero.1 hm
  have h1 := size_le (cl t)
  have h2 := topv_le [] (cl t)
  obtain ⟨W', E', m, M, h⟩ := putT_ok most (cl t) (-1) ⟨[], names0, []⟩ _ _ _ inv0 hf hr (fun p hp => by omega) (by simp only [List.length_nil]; split <;> omega) (by have : names0.length = 2 := rfl; simp only [this]; omega)
  have hl := h.l
  simp only [List.nil_append] at hl
  refine ⟨W', E', M, by rw [hl]; exact h, ?_⟩
  rw [putR_eq, if_pos hm, if_neg (by simpa using h.err)]
  have he := h.err
  exact Prod.ext rfl (Prod.ext rfl he.symm)
theorem small_law (t : Tm) (hm : mayE t = 0) (hr : ranged (cl t)) : (putR 1048576 t ⟨[], names0, []⟩).2.2 = 0 ∧ (putR 1048576 t ⟨[], names0, []⟩).1.l.length = cntF t true := by
  obtain ⟨W', E', M, h, e⟩ := put0_ok 1048576 t hm hr (by decide)
  rw [e]
  refine ⟨h.err, ?_⟩
  rw [h.len, (cnt_size t (mayE_zero.1 hm).1).2]
  rfl
theorem cnt_le (t : Tm) (hm : mayE t = 0) : cntF t true ≤ 6001 := by
  obtain ⟨hk, hf, hd, hn⟩ := mayE_zero.1 hm
  rw [(cnt_size t hk).2]
  have h1 := size_le (cl t)
  have h2 := topv_le [] (cl t)
  omega

end Go.Proofs.Ytlmcfclonncgbaa
