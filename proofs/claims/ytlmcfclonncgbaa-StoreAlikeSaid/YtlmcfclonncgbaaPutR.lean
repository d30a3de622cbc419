/- What Put lays, by recursion. -/
import Derived.Test.YtlmcfclonncgbaaPutW
namespace Go.Proofs.Ytlmcfclonncgbaa
open Go.RowKit
set_option linter.unusedVariables false
set_option linter.unusedSimpArgs false

theorem putR_eq (most : Int) (t : Tm) (st : SS) : putR most t st = if mayE t = 0 then (if (putT most (cl t) (-1) st).2.2 ≠ 0 then ((putT most (cl t) (-1) st).1, 0, (putT most (cl t) (-1) st).2.2) else ((putT most (cl t) (-1) st).1, (putT most (cl t) (-1) st).2.1, 0)) else (st, 0, mayE t) := by
  unfold putR
  rw [run_one]
def awkT : Tm := .mk 5 ⟨#[102]⟩ 0 0 0 [.mk 1 ByteArray.empty 0 0 0 [], .mk 2 ⟨#[97]⟩ 0 0 0 [], .mk 1 ByteArray.empty 0 0 0 []]
theorem awkT_put : putR 50 awkT ⟨[], names0, []⟩ = (⟨[funC 2 3, 8, 26, 8], names0 ++ [⟨#[102]⟩, ⟨#[97]⟩], [(0, 8)]⟩, 1, 0) := by
  rw [putR_eq]
  kernel_rfl

end Go.Proofs.Ytlmcfclonncgbaa
