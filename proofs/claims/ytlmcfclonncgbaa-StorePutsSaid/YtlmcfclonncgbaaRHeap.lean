/- The reference's heap (elenchusref4), each call by a contract: it answers as the heap's own. -/
import Derived.Test.YtlmcfclonncgbaaDeref
import Derived.Test.YtlmcfclonncgbaaPk1
namespace Go.Proofs.Ytlmcfclonncgbaa
open Go.RowKit
set_option linter.unusedVariables false

/-- A heap of the reference's at block p. -/
def RH (own : Nat → Nat) (id : Nat) (w : World) (p : Nat) (most : Int) (l : List Int) : Prop :=
  ∃ v, Blk own id w p [v, .int .i64 most] 135 ∧ Row own id w 34 1 v l.length (words l) ∧ (l.length : Int) ≤ most ∧ most ≤ 1048576
theorem RH.keep {own own' : Nat → Nat} {id p : Nat} {ids : List Nat} {w w' : World} {most : Int} {l : List Int} (h : RH own id w p most l) (x : Ext own own' ids w w') (hi : id ∉ ids) : RH own' id w' p most l := by
  obtain ⟨v, hb, hr, h1, h2⟩ := h
  exact ⟨v, hb.keep x hi, hr.keep x hi, h1, h2⟩
theorem RH.dr {own : Nat → Nat} {id p : Nat} {w : World} {most : Int} {l : List Int} (h : RH own id w p most l) (n : Nat) : RH own id (w.drewN n) p most l := h
theorem RH.len {own : Nat → Nat} {id p : Nat} {w : World} {most : Int} {l : List Int} (h : RH own id w p most l) : (l.length : Int) ≤ most ∧ most ≤ 1048576 := by
  obtain ⟨_, _, _, h1, h2⟩ := h; exact ⟨h1, h2⟩

theorem rnew_end (own : Nat → Nat) (id : Nat) (w : World) (m : Int) (h0 : 0 ≤ m) (h1 : m ≤ 1048576) :
    Ext own (give own w.heap.size id) [] w (w.alloc (.cells #[.slice none 0 0, .int .i64 m] 135)) ∧ RH (give own w.heap.size id) id (w.alloc (.cells #[.slice none 0 0, .int .i64 m] 135)) w.heap.size m [] :=
  ⟨((Ext.refl own [] w).alloc _).give _ _ (Nat.le_refl _), _, ⟨heap_alloc_new _ _, give_same _ _ _⟩, Row.nil _ _ _ _ _, by simpa using h0, h1⟩
def MadeRHeap (own : Nat → Nat) (w : World) (id : Nat) (m : Int) (e : Ending) (w' : World) : Prop :=
  ∃ own', Ext own own' [] w w' ∧ e = .returned (.pointer (some ⟨w.heap.size, 0, none⟩)) ∧ w.heap.size < w'.heap.size ∧ RH own' id w' w.heap.size m []
theorem rnew_any (own : Nat → Nat) (id : Nat) (most : Int) (w : World) : Calls Try.prog 37 #[.int .i64 most] w (MadeRHeap own w id (mostOf most)) := by
  have fin : ∀ m, m = mostOf most → MadeRHeap own w id (mostOf most) (.returned (.pointer (some ⟨w.heap.size, 0, none⟩))) (w.alloc (.cells #[.slice none 0 0, .int .i64 m] 135)) := by
    intro m hm
    subst hm
    exact ⟨_, (rnew_end own id w _ (mostOf_range most).1 (mostOf_range most).2).1, rfl, by simp, (rnew_end own id w _ (mostOf_range most).1 (mostOf_range most).2).2⟩
  go_enter Try.func37, Try.ntmps37
  go_wp2_with fail
  all_goals
    go_ret
    refine fin _ ?_
    unfold mostOf
    (repeat' split) <;> omega

set_option maxHeartbeats 400000 in
theorem rpush_room (own : Nat → Nat) (id p : Nat) (most c : Int) (l : List Int) (w : World) (h : RH own id w p most l) (hlt : (l.length : Int) < most) :
    Calls Try.prog 45 #[.pointer (some ⟨p, 0, none⟩), .int .u64 c] w
      (Does own [id] w fun own' e w' => e = .returned (.tuple #[.int .i64 l.length, .int .i64 0]) ∧ RH own' id w' p most (l ++ [c])) := by
  obtain ⟨v, hb, hr, h1, h2⟩ := h
  have c0 := hb.cell 0 rfl
  have c1 := hb.cell 1 rfl
  obtain ⟨A, cap, rfl, hc⟩ := hr.form
  have hd : decide (most ≤ (l.length : Int)) = false := decide_eq_false (by omega)
  go_enter Try.func45, Try.ntmps45
  go_wp2_with fail
  go_quiet (fail)
  go_wp2_with (at_builtin; refine wpList_append_row rfl _ _ 62 rfl 34 (.int .u64 0) 1 8 Try.underlying62 info_cell rfl (by decide) (by decide) rfl rfl rfl (one_cell' _ rfl) hr (by omega) ?_)
  intro g cap' w1 own1 hr1 x1 hk1 hz
  have hb1 := hk1 p _ _ hb (by decide)
  clear hk1 hz
  have d1 := hb1.cell 0 rfl
  have f1 := hb1.free 0
  have hq : 0 ≤ (l.length : Int) := by omega
  go_wp2
  go_ret2
  have hne : (Value.slice (some ⟨g, 0, none⟩) (l.length + 1) cap').ownBlock ≠ some p := hr1.ne_blk hb1 (by decide)
  refine ⟨own1, ?_, ret_pair (by omega), _, hb1.set 0 _, ?_, by simp; omega, h2⟩
  · exact x1.ofDrew.setCell _ _ (fun _ => by show own p ∈ [id]; rw [hb.2]; simp)
  · have := hr1.far (p := ⟨p, 0, none⟩) hne (Value.slice (some ⟨g, 0, none⟩) (l.length + 1) cap')
    rw [words_append, List.length_append]
    exact this
set_option maxHeartbeats 400000 in
theorem rpush_full (own : Nat → Nat) (id p : Nat) (most c : Int) (l : List Int) (w : World) (h : RH own id w p most l) (hlt : (l.length : Int) = most) :
    Calls Try.prog 45 #[.pointer (some ⟨p, 0, none⟩), .int .u64 c] w (Quiet w (.tuple #[.int .i64 0, .int .i64 4])) := by
  obtain ⟨v, hb, hr, h1, h2⟩ := h
  have c0 := hb.cell 0 rfl
  have c1 := hb.cell 1 rfl
  obtain ⟨A, cap, rfl, hc⟩ := hr.form
  have hd : decide (most ≤ (l.length : Int)) = true := decide_eq_true (by omega)
  clear hlt
  go_enter Try.func45, Try.ntmps45
  go_wp2_with fail
  go_quiet (fail)
  go_wp2
  go_ret2
  exact ⟨rfl, _, rfl⟩
theorem rpush_any (own : Nat → Nat) (id p : Nat) (most c : Int) (l : List Int) (w : World) (h : RH own id w p most l) :
    Calls Try.prog 45 #[.pointer (some ⟨p, 0, none⟩), .int .u64 c] w
      (Does own [id] w fun own' e w' => e = .returned (pushV most l) ∧ RH own' id w' p most (pushL most l c)) := by
  by_cases hi : (l.length : Int) < most
  · have := rpush_room own id p most c l w h hi
    unfold pushV pushL; simpa [hi] using this
  · refine (rpush_full own id p most c l w h (by have := h.len; omega)).mono fun e w' hq => hq.does fun n => ?_
    unfold pushV pushL; rw [if_neg hi, if_neg hi]
    exact ⟨rfl, h⟩
theorem rvar_room (own : Nat → Nat) (id p : Nat) (most : Int) (l : List Int) (w : World) (h : RH own id w p most l) (hi : (l.length : Int) < most) :
    Calls Try.prog 124 #[.pointer (some ⟨p, 0, none⟩)] w
      (Does own [id] w fun own' e w' => e = .returned (.tuple #[.int .i64 l.length, .int .i64 0]) ∧ RH own' id w' p most (l ++ [(l.length : Int) * 8])) := by
  have hl := h.len
  have h' := h
  obtain ⟨v, hb, hr, h1, h2⟩ := h'
  have c0 := hb.cell 0 rfl
  obtain ⟨A, cap, rfl, hc⟩ := hr.form
  go_enter Try.func124, Try.ntmps124
  go_wp2_with (first | (go_at_call 85; refine (rmake_any _ _ _ (by omega) (by omega) (by omega) (by omega)).mono ?_; rintro e w' ⟨rfl, rfl⟩) | (go_at_call 45; refine (rpush_room own id p most _ l _ h hi).mono ?_; rintro e w' ⟨own1, x1, rfl, hp1⟩))
  go_ret2
  exact ⟨own1, x1, rfl, hp1⟩
theorem rvar_full (own : Nat → Nat) (id p : Nat) (most : Int) (l : List Int) (w : World) (h : RH own id w p most l) (hi : (l.length : Int) = most) :
    Calls Try.prog 124 #[.pointer (some ⟨p, 0, none⟩)] w (Quiet w (.tuple #[.int .i64 0, .int .i64 4])) := by
  have hl := h.len
  have h' := h
  obtain ⟨v, hb, hr, h1, h2⟩ := h'
  have c0 := hb.cell 0 rfl
  obtain ⟨A, cap, rfl, hc⟩ := hr.form
  have HI := Lib.hid hi
  clear hi
  go_enter Try.func124, Try.ntmps124
  go_wp2_with (first | (go_at_call 85; refine (rmake_any _ _ _ (by omega) (by omega) (by omega) (by omega)).mono ?_; rintro e w' ⟨rfl, rfl⟩) | (go_at_call 45; refine (rpush_full own id p most _ l _ h HI.out).mono ?_; rintro e w' ⟨rfl, n, rfl⟩))
  go_ret2
  exact ⟨rfl, _, rfl⟩

theorem rin_true (own : Nat → Nat) (id p : Nat) (most v : Int) (l : List Int) (w : World) (hv : v < l.length) (h : RH own id w p most l) :
    Calls Try.prog 134 #[.pointer (some ⟨p, 0, none⟩), .int .u64 v] w fun e w' => e = .returned (.bool true) ∧ w' = w := by
  have hl := h.len
  obtain ⟨_, hb, hr, h1, h2⟩ := h
  have c0 := hb.cell 0 rfl
  obtain ⟨A, cap, rfl, hc⟩ := hr.form
  go_enter Try.func134, Try.ntmps134
  go_wp2
  go_ret
  exact ⟨rfl, rfl⟩
theorem rin_false (own : Nat → Nat) (id p : Nat) (most v : Int) (l : List Int) (w : World) (hv : ¬ v < l.length) (h : RH own id w p most l) :
    Calls Try.prog 134 #[.pointer (some ⟨p, 0, none⟩), .int .u64 v] w fun e w' => e = .returned (.bool false) ∧ w' = w := by
  have hl := h.len
  obtain ⟨_, hb, hr, h1, h2⟩ := h
  have c0 := hb.cell 0 rfl
  obtain ⟨A, cap, rfl, hc⟩ := hr.form
  go_enter Try.func134, Try.ntmps134
  go_wp2
  go_ret
  exact ⟨rfl, rfl⟩

end Go.Proofs.Ytlmcfclonncgbaa
