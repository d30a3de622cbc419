/- Small additions on frames: draws ahead of a frame are none; a frame as one of owners. -/
import Derived.Test.YtaahamgjhlnjnaaMem
namespace Go.Proofs.Ytaahamgjhlnjnaa
open Go.RowKit

theorem below_ofDrew {B n : Nat} {w w' : World} (h : Below B (w.drewN n) w') : Below B w w' := ⟨h.os, h.tape, h.output, h.size, h.block⟩
theorem below_drewN {B n : Nat} {w w' : World} (h : Below B w w') : Below B w (w'.drewN n) := ⟨h.os, h.tape, h.output, h.size, h.block⟩
/-- A call that leaves all that was there: as a frame of owners. -/
theorem Ext.belowStep {o o' : Nat → Nat} {ids : List Nat} {w w1 w2 : World} (h : Ext o o' ids w w1) (hb : Below w1.heap.size w1 w2) : Ext o o' ids w w2 := h.trans (Ext.of_below hb ids)

end Go.Proofs.Ytaahamgjhlnjnaa
