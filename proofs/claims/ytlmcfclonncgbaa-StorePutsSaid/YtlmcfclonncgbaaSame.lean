/- Two heaps with the same cells are alike (elenchuslaw7's same). -/
import Derived.Test.YtlmcfclonncgbaaRPut5
namespace Go.Proofs.Ytlmcfclonncgbaa
open Go.RowKit
set_option linter.unusedVariables false
set_option linter.unusedSimpArgs false

set_option maxHeartbeats 1000000 in
set_option maxRecDepth 100000 in
theorem same7_any (own : Nat → Nat) (id1 id2 : Nat) (w : World) (p ph : Nat) (m1 m2 : Int) (l : List Int) (hh : HP own id1 w p m1 l) (hg : RH own id2 w ph m2 l) :
    Calls Try.prog 40 #[.pointer (some ⟨p, 0, none⟩), .pointer (some ⟨ph, 0, none⟩)] w (Quiet w (.bool true)) := by
  have hll := hg.len
  have hlen := fun n => len_any own id1 p m1 l (w.drewN n) (hh.dr n)
  obtain ⟨v, kb, kr, _⟩ := id hg
  have c0 := kb.cell 0 rfl
  obtain ⟨A0, cp, rfl, _⟩ := kr.form
  have HLN := Lib.hid hlen
  have HH := Lib.hid (And.intro hh (And.intro kb kr))
  clear hlen hh hg kb kr
  go_enter Try.func40, Try.ntmps40
  go_wp2_with fail
  go_quiet ((go_at_call 31; first | exact quiet_gen2 (HLN.out _) QQ | exact Calls.quiet_of (HLN.out _)))
  go_wp2_with fail
  go_loopw [22] (fun u wr => ∃ (j m : Nat), u = .int .i64 j ∧ j ≤ l.length ∧ wr = w.drewN m) (fun u _ => l.length - (intOf u).toNat)
  case atStart => exact ⟨0, _, rfl, Nat.zero_le _, rfl⟩
  case round =>
    obtain ⟨j, m, rfl, hj, rfl⟩ := hrel
    by_cases hlt : j < l.length
    · obtain ⟨gs, cp2, he, _⟩ := HH.out.2.2.form_pos (by omega)
      simp only [Value.slice.injEq] at he
      obtain ⟨rfl, _, rfl⟩ := he
      obtain ⟨y, hy⟩ : ∃ y, l.getD j 0 = y := ⟨_, rfl⟩
      have hx := (HH.out.2.2.keep ((Ext.refl own [] w).drewN m) (by simp)).cell j (u := .int .u64 y) (by unfold words; rw [List.getElem?_map, getD_mem hlt, hy]; rfl)
      have hget := get_in own id1 p m1 (j : Int) l (w.drewN m) (HH.out.1.dr m) (by omega) (by omega)
      rw [show ((j : Int)).toNat = j by omega, hy] at hget
      have HG := Lib.hid hget
      clear hget hy
      go_wp2_with (go_at_call 36; refine Calls.mono HG.out ?_; rintro e w6 ⟨rfl, n6, rfl⟩)
      go_roundw
      case measure => simp [intOf]; omega
      exact ⟨j + 1, _, by go_num, by omega, rfl⟩
    · obtain rfl : j = l.length := by omega
      go_wp2_with fail
      go_ret
      exact ⟨rfl, _, rfl⟩

end Go.Proofs.Ytlmcfclonncgbaa
