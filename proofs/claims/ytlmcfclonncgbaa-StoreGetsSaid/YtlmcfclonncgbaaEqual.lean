/- The reference's Equal (package elenchusref1), of like answers. -/
import Derived.Test.YtlmcfclonncgbaaRGet4
import Derived.Test.YtlmcfclonncgbaaPk8
import Derived.Test.YtlmcfclonncgbaaLike
namespace Go.Proofs.Ytlmcfclonncgbaa
open Go.RowKit
set_option linter.unusedVariables false
set_option linter.unusedSimpArgs false

theorem kind_un (c : CT) : ((un c).kind == 0) = false := by cases c <;> rfl
set_option maxHeartbeats 1000000 in
set_option maxRecDepth 100000 in
theorem requal_zero (own : Nat → Nat) (w : World) : Calls Try.prog 49 #[.agg #[.int .i64 0, .string ByteArray.empty, .int .i64 0, .int .u64 0, .int .u64 0, .slice none 0 0], .agg #[.int .i64 0, .string ByteArray.empty, .int .i64 0, .int .u64 0, .int .u64 0, .slice none 0 0]] w (Does own [] w fun own' e w' => e = .returned (.bool true)) := by
  obtain ⟨W1, hW1⟩ : ∃ W, w.alloc (.cells #[.int .i64 0, .string ByteArray.empty, .int .i64 0, .int .u64 0, .int .u64 0, .slice none 0 0] 25) = W := ⟨_, rfl⟩
  obtain ⟨o1, X1, kA, x1⟩ := boxV (Ext.refl own [] w) [.int .i64 0, .string ByteArray.empty, .int .i64 0, .int .u64 0, .int .u64 0, .slice none 0 0] 25 0 W1 hW1
  obtain ⟨W2, hW2⟩ : ∃ W, W1.alloc (.cells #[.int .i64 0, .string ByteArray.empty, .int .i64 0, .int .u64 0, .int .u64 0, .slice none 0 0] 25) = W := ⟨_, rfl⟩
  obtain ⟨o2, X2, kB, x2⟩ := boxV X1 [.int .i64 0, .string ByteArray.empty, .int .i64 0, .int .u64 0, .int .u64 0, .slice none 0 0] 25 0 W2 hW2
  replace kA := kA.keep x2 (by simp)
  have a0 := kA.cell 0 rfl; have a1 := kA.cell 1 rfl; have a2 := kA.cell 2 rfl; have a3 := kA.cell 3 rfl; have a4 := kA.cell 4 rfl; have a5 := kA.cell 5 rfl
  have b0 := kB.cell 0 rfl; have b1 := kB.cell 1 rfl; have b2 := kB.cell 2 rfl; have b3 := kB.cell 3 rfl; have b4 := kB.cell 4 rfl; have b5 := kB.cell 5 rfl
  have hbe : (ByteArray.empty == ByteArray.empty) = true := by decide
  clear X1 x1 x2 kA kB
  go_enter Try.func49, Try.ntmps49
  go_wp2_with fail
  go_ret
  exact ⟨o2, X2, rfl⟩
set_option maxHeartbeats 1000000 in
set_option maxRecDepth 100000 in
theorem requal_un (c : CT) (hg : Good c) (A A2 : Option Addr) (len cap len2 cap2 : Nat) (own : Nat → Nat) (w : World) (h : TmS own w (un c) (.slice A len cap)) (h2 : TmS own w (un c) (.slice A2 len2 cap2)) :
    Calls Try.prog 49 #[valT (un c) (.slice A len cap), valT (un c) (.slice A2 len2 cap2)] w (Does own [] w fun own' e w' => e = .returned (.bool true)) := by
  have hk := kind_un c
  have hss := same_self hg
  have ea : valT (un c) (.slice A len cap) = .agg #[.int .i64 (un c).kind, .string (un c).name, .int .i64 (un c).int, .int .u64 (un c).re, .int .u64 (un c).im, .slice A len cap] := rfl
  have eb : valT (un c) (.slice A2 len2 cap2) = .agg #[.int .i64 (un c).kind, .string (un c).name, .int .i64 (un c).int, .int .u64 (un c).re, .int .u64 (un c).im, .slice A2 len2 cap2] := rfl
  rw [ea, eb]
  obtain ⟨W1, hW1⟩ : ∃ W, w.alloc (.cells #[.int .i64 (un c).kind, .string (un c).name, .int .i64 (un c).int, .int .u64 (un c).re, .int .u64 (un c).im, .slice A len cap] 25) = W := ⟨_, rfl⟩
  obtain ⟨o1, X1, kA, x1⟩ := boxV (Ext.refl own [] w) [.int .i64 (un c).kind, .string (un c).name, .int .i64 (un c).int, .int .u64 (un c).re, .int .u64 (un c).im, .slice A len cap] 25 0 W1 hW1
  obtain ⟨W2, hW2⟩ : ∃ W, W1.alloc (.cells #[.int .i64 (un c).kind, .string (un c).name, .int .i64 (un c).int, .int .u64 (un c).re, .int .u64 (un c).im, .slice A2 len2 cap2] 25) = W := ⟨_, rfl⟩
  obtain ⟨o2, X2, kB, x2⟩ := boxV X1 [.int .i64 (un c).kind, .string (un c).name, .int .i64 (un c).int, .int .u64 (un c).re, .int .u64 (un c).im, .slice A2 len2 cap2] 25 0 W2 hW2
  replace kA := kA.keep x2 (by simp)
  have a0 := kA.cell 0 rfl; have a1 := kA.cell 1 rfl; have a2 := kA.cell 2 rfl; have a3 := kA.cell 3 rfl; have a4 := kA.cell 4 rfl; have a5 := kA.cell 5 rfl
  have b0 := kB.cell 0 rfl; have b1 := kB.cell 1 rfl; have b2 := kB.cell 2 rfl; have b3 := kB.cell 3 rfl; have b4 := kB.cell 4 rfl; have b5 := kB.cell 5 rfl
  have hT := TmS.keep x2 (by simp) _ _ (TmS.keep x1 (by simp) _ _ h)
  have hT2 := TmS.keep x2 (by simp) _ _ (TmS.keep x1 (by simp) _ _ h2)
  have hc := same_any (un c) (.slice A len cap) (un c) (.slice A2 len2 cap2) o2 W2 hT hT2
  rw [hss] at hc
  have HC := Lib.hid hc
  clear X1 x1 x2 kA kB hc hT hT2 h h2 hss hg
  go_enter Try.func49, Try.ntmps49
  go_wp2_with (go_at_call 51; refine Calls.mono HC.out ?_; rintro e w5 ⟨own5, x5, rfl⟩)
  go_ret
  exact ⟨own5, X2.trans x5, rfl⟩

end Go.Proofs.Ytlmcfclonncgbaa
