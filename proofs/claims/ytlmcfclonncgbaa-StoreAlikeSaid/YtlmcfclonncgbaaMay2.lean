/- May and Nodes of the reference: what is wrong with a term, how many nodes it has. -/
import Derived.Test.YtlmcfclonncgbaaMay
import Derived.Test.YtlmcfclonncgbaaBox
namespace Go.Proofs.Ytlmcfclonncgbaa
open Go.RowKit
set_option linter.unusedVariables false

theorem own_ne (own : Nat → Nat) (n : Nat) : ∃ F, F ≠ 0 ∧ ∀ b, b < n → own b < F := by
  obtain ⟨F, h⟩ := fresh_owner own n
  exact ⟨F + 1, by omega, fun b hb => by have := h b hb; omega⟩
/-- A call that has touched nothing but what is a fresh owner's. -/
theorem Ext.only {own own' : Nat → Nat} {F : Nat} {w w' : World} (x : Ext own own' [F] w w') (hF : ∀ b, b < w.heap.size → own b < F) : Ext own own' [] w w' :=
  ⟨x.os, x.tape, x.output, x.size, x.own, fun b hb _ => x.block b hb (by have := hF b hb; simp; omega)⟩
set_option maxHeartbeats 800000 in
theorem rmay_any (t : Tm) (sl : Value) (own : Nat → Nat) (w : World) (h : TmS own w t sl) :
    Calls Try.prog 24 #[valT t sl] w (Does own [] w fun own' e w' => e = .returned (.int .i64 (mayE t))) := by
  obtain ⟨F, hF0, hF⟩ := own_ne own w.heap.size
  obtain ⟨A, l, c, rfl, _⟩ := h.args
  have e : valT t (.slice A l c) = .agg #[.int .i64 t.kind, .string t.name, .int .i64 t.int, .int .u64 t.re, .int .u64 t.im, .slice A l c] := rfl
  rw [e]
  go_enter Try.func24, Try.ntmps24
  go_wp2_with fail
  have x1 := (Ext.refl own [F] w).alloc (.cells #[.int .i64 t.kind, .string t.name, .int .i64 t.int, .int .u64 t.re, .int .u64 t.im, .slice A l c] 25)
  obtain ⟨x3, hbw, _⟩ := x1.box [.int .i64 0, .int .i64 0] 117 F
  rw [World.size_alloc] at x3 hbw
  refine (may_any t _ 1 (0, 0) _ F _ _ (TmS.keep x3 (by simpa using hF0.symm) t _ h) hF0 hbw (by omega) ⟨by simp, by simp, by simp, by simp⟩).mono ?_
  rintro e w2 ⟨own2, x2, rfl, hb2⟩
  have c1 := hb2.cell 1 rfl
  go_wp2_with fail
  go_ret
  exact ⟨own2, (x3.trans x2).only hF, rfl⟩
set_option maxHeartbeats 800000 in
theorem rnodes_any (t : Tm) (sl : Value) (own : Nat → Nat) (w : World) (h : TmS own w t sl) :
    Calls Try.prog 53 #[valT t sl] w (Does own [] w fun own' e w' => e = .returned (.int .i64 (nodesN t))) := by
  obtain ⟨F, hF0, hF⟩ := own_ne own w.heap.size
  obtain ⟨A, l, c, rfl, _⟩ := h.args
  have e : valT t (.slice A l c) = .agg #[.int .i64 t.kind, .string t.name, .int .i64 t.int, .int .u64 t.re, .int .u64 t.im, .slice A l c] := rfl
  rw [e]
  unfold nodesN mayE
  go_enter Try.func53, Try.ntmps53
  go_wp2_with fail
  have x1 := (Ext.refl own [F] w).alloc (.cells #[.int .i64 t.kind, .string t.name, .int .i64 t.int, .int .u64 t.re, .int .u64 t.im, .slice A l c] 25)
  obtain ⟨x3, hbw, _⟩ := x1.box [.int .i64 0, .int .i64 0] 117 F
  rw [World.size_alloc] at x3 hbw
  refine (may_any t _ 1 (0, 0) _ F _ _ (TmS.keep x3 (by simpa using hF0.symm) t _ h) hF0 hbw (by omega) ⟨by simp, by simp, by simp, by simp⟩).mono ?_
  rintro e w2 ⟨own2, x2, rfl, hb2⟩
  have c0 := hb2.cell 0 rfl
  have c1 := hb2.cell 1 rfl
  by_cases he : (mayF t 1 (0, 0)).2 = 0
  · rw [he] at c1
    go_wp2_with fail
    go_ret
    exact ⟨own2, (x3.trans x2).only hF, rfl⟩
  · have he' : ((mayF t 1 (0, 0)).2 == 0) = false := by simpa using he
    go_wp2_with fail
    go_ret
    exact ⟨own2, (x3.trans x2).only hF, rfl⟩

end Go.Proofs.Ytlmcfclonncgbaa
