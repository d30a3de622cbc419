/- The trail's calls (package trail), each by a contract: what it answers, what becomes of the heap and of the trail. -/
import Derived.Test.YtlmcfclonncgbaaPk1
namespace Go.Proofs.Ytlmcfclonncgbaa
open Go.RowKit
set_option linter.unusedVariables false

theorem info_int : (Try.prog.info? 3).map (fun i => (i.zero, i.size, i.bytes)) = some (some (.int .i64 0), 1, 8) := by kernel_rfl
def nums64 (l : List Int) : List Value := l.map (Value.int .i64)
theorem nums64_get (l : List Int) (j : Nat) (h : j < l.length) : (nums64 l)[j]? = some (.int .i64 (l.getD j 0)) := by simp [nums64, h]
theorem nums64_take (l : List Int) (j : Nat) : (nums64 l).take j = nums64 (l.take j) := by simp [nums64, List.map_take]

/-- A trail at block p: what was written over: places, and what stood there. -/
def TP (own : Nat → Nat) (id : Nat) (w : World) (p : Nat) (L : List (Int × Int)) : Prop :=
  ∃ vp vc, Blk own id w p [vp, vc] 159 ∧ Row own id w 3 1 vp L.length (nums64 (L.map (·.1))) ∧ Row own id w 34 1 vc L.length (words (L.map (·.2)))
theorem TP.keep {own own' : Nat → Nat} {id p : Nat} {ids : List Nat} {w w' : World} {L : List (Int × Int)} (h : TP own id w p L) (x : Ext own own' ids w w') (hi : id ∉ ids) : TP own' id w' p L := by
  obtain ⟨vp, vc, hb, hr, hs⟩ := h
  exact ⟨vp, vc, hb.keep x hi, hr.keep x hi, hs.keep x hi⟩
theorem TP.dr {own : Nat → Nat} {id p : Nat} {w : World} {L : List (Int × Int)} (h : TP own id w p L) (n : Nat) : TP own id (w.drewN n) p L := h
theorem TP.alloc {own : Nat → Nat} {id p : Nat} {w : World} {L : List (Int × Int)} (h : TP own id w p L) (o : Obj) : TP own id (w.alloc o) p L := by
  obtain ⟨vp, vc, hb, hr, hs⟩ := h
  exact ⟨vp, vc, hb.alloc o, hr.alloc o, hs.alloc o⟩

def MadeTrail (own : Nat → Nat) (w : World) (id : Nat) (e : Ending) (w' : World) : Prop :=
  ∃ own', Ext own own' [] w w' ∧ e = .returned (.pointer (some ⟨w.heap.size, 0, none⟩)) ∧ w.heap.size < w'.heap.size ∧ TP own' id w' w.heap.size []
theorem tnew_any (own : Nat → Nat) (id : Nat) (w : World) : Calls Try.prog 64 #[] w (MadeTrail own w id) := by
  go_enter Try.func64, Try.ntmps64
  go_wp2_with fail
  go_ret
  exact ⟨give own w.heap.size id, ((Ext.refl own [] w).alloc _).give _ _ (Nat.le_refl _), rfl, by simp, _, _, ⟨heap_alloc_new _ _, give_same _ _ _⟩, Row.nil _ _ _ _ _, Row.nil _ _ _ _ _⟩

theorem tlen_any (own : Nat → Nat) (id p : Nat) (L : List (Int × Int)) (w : World) (h : TP own id w p L) : Calls Try.prog 71 #[.pointer (some ⟨p, 0, none⟩)] w (Quiet w (.int .i64 L.length)) := by
  obtain ⟨vp, vc, hb, hr, hs⟩ := h
  have c0 := hb.cell 0 rfl
  obtain ⟨A, cap, rfl, hc⟩ := hr.form
  go_enter Try.func71, Try.ntmps71
  go_wp2_with fail
  go_ret
  exact ⟨rfl, 0, rfl⟩
theorem tlen_nil (w : World) : Calls Try.prog 71 #[.pointer none] w (Quiet w (.int .i64 0)) := by
  go_enter Try.func71, Try.ntmps71
  go_wp2_with fail
  go_ret
  exact ⟨rfl, 0, rfl⟩
theorem tmark_any (own : Nat → Nat) (id p : Nat) (L : List (Int × Int)) (w : World) (h : TP own id w p L) : Calls Try.prog 100 #[.pointer (some ⟨p, 0, none⟩)] w (Quiet w (.int .i64 L.length)) := by
  go_enter Try.func100, Try.ntmps100
  go_wp2_with (go_at_call 71; refine (tlen_any own id p L _ h).mono ?_; rintro e w' ⟨rfl, n, rfl⟩)
  go_ret
  exact ⟨rfl, _, rfl⟩
theorem tmark_nil (w : World) : Calls Try.prog 100 #[.pointer none] w (Quiet w (.int .i64 0)) := by
  go_enter Try.func100, Try.ntmps100
  go_wp2_with (go_at_call 71; refine (tlen_nil _).mono ?_; rintro e w' ⟨rfl, n, rfl⟩)
  go_ret
  exact ⟨rfl, _, rfl⟩

end Go.Proofs.Ytlmcfclonncgbaa
