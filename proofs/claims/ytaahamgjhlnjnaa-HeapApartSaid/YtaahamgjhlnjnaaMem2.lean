/- Small additions on frames: draws ahead of a frame are none; a frame as one of owners. -/
import Derived.Test.YtaahamgjhlnjnaaMem
import Derived.Test.YtaahamgjhlnjnaaBits
namespace Go.Proofs.Ytaahamgjhlnjnaa
open Go.RowKit

theorem below_ofDrew {B n : Nat} {w w' : World} (h : Below B (w.drewN n) w') : Below B w w' := ⟨h.os, h.tape, h.output, h.size, h.block⟩
theorem below_drewN {B n : Nat} {w w' : World} (h : Below B w w') : Below B w (w'.drewN n) := ⟨h.os, h.tape, h.output, h.size, h.block⟩
/-- A call that leaves all that was there: as a frame of owners. -/
theorem Ext.belowStep {o o' : Nat → Nat} {ids : List Nat} {w w1 w2 : World} (h : Ext o o' ids w w1) (hb : Below w1.heap.size w1 w2) : Ext o o' ids w w2 := h.trans (Ext.of_below hb ids)

/-- 'int(uint64(a) % k)': a number from 0 on, below k. -/
theorem mod_nat (a k : Int) (hk : 0 < k) (hk2 : k ≤ 4611686018427387904) : ∃ m : Nat, wrap64 ((IntKind.u64.wrap a).tmod k) = m ∧ (m : Int) < k := by
  have h0 : 0 ≤ IntKind.u64.wrap a := by rw [wrap_u64]; omega
  rw [tmod_pos _ _ h0]
  have h1 := Int.emod_nonneg (IntKind.u64.wrap a) (show k ≠ 0 by omega)
  have h2 := Int.emod_lt_of_pos (IntKind.u64.wrap a) hk
  rw [wrap64_in _ (by omega) (by omega)]
  exact ⟨(IntKind.u64.wrap a % k).toNat, by omega, by omega⟩
/-- At the start everything is what came in. -/
def own0 : Nat → Nat := fun _ => 0
theorem Ext.done {o : Nat → Nat} {ids : List Nat} {w w' : World} (h : Ext own0 o ids w w') (hi : 0 ∉ ids) : Below w.heap.size w w' := h.below (fun _ _ => rfl) hi

end Go.Proofs.Ytaahamgjhlnjnaa
