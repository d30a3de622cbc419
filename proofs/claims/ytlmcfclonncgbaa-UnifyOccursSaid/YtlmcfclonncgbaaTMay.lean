/- May of package term, as the other packages call it. -/
import Derived.Test.YtlmcfclonncgbaaWalk
namespace Go.Proofs.Ytlmcfclonncgbaa
open Go.RowKit
set_option linter.unusedVariables false
set_option linter.unusedSimpArgs false

set_option maxRecDepth 100000 in
theorem tmay_any (t : Tm) (sl : Value) (own : Nat → Nat) (w : World) (h : TmS own w t sl) :
    Calls Try.prog 86 #[valT t sl] w (Does own [] w fun own' e w' => e = .returned (.int .i64 (mayE t))) := by
  obtain ⟨A, len, cap, rfl, hL⟩ := h.args
  have e : valT t (.slice A len cap) = .agg #[.int .i64 t.kind, .string t.name, .int .i64 t.int, .int .u64 t.re, .int .u64 t.im, .slice A len cap] := rfl
  obtain ⟨x1, kb, y1⟩ := (Ext.refl own [] w).box [.int .i64 t.kind, .string t.name, .int .i64 t.int, .int .u64 t.re, .int .u64 t.im, .slice A len cap] 25 0
  have hc := twalk_any t _ _ _ (TmS.keep y1 (by simp) t _ h)
  rw [e] at hc ⊢
  have c0 := kb.cell 0 rfl
  have c1 := kb.cell 1 rfl
  have c2 := kb.cell 2 rfl
  have c3 := kb.cell 3 rfl
  have c4 := kb.cell 4 rfl
  have c5 := kb.cell 5 rfl
  have HC := Lib.hid hc
  have HX := Lib.hid x1
  clear hc h hL x1 y1
  go_enter Try.func86, Try.ntmps86
  go_wp2_with (go_at_call 119; refine Calls.mono HC.out ?_; rintro e w2 ⟨own2, x2, a, b, rfl⟩)
  go_ret
  exact ⟨own2, HX.out.trans x2, rfl⟩

end Go.Proofs.Ytlmcfclonncgbaa
