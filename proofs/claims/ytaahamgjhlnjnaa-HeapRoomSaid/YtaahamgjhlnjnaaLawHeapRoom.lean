/- The walk of the law HeapRoom: as many variables as there is room for, and no more; cut off there is room again. -/
import Derived.Test.YtaahamgjhlnjnaaAwake5
namespace Go.Proofs.Ytaahamgjhlnjnaa
open Go.RowKit

set_option maxHeartbeats 1600000 in
set_option maxRecDepth 100000 in
theorem heapRoom_walk (a0 : Int) (w0 : (Lit.int .i64 a0).wf = true) (w : World) :
    Calls Try.prog 14 #[.int .i64 a0] w fun e w' => e = .returned (.bool true) ∧ Below w.heap.size w w' := by
  have b0 := wf_i64 w0
  obtain ⟨m, hm, hm2⟩ := mod_nat a0 300 (by decide) (by decide)
  have hmost : mostOf (m : Int) = m := by unfold mostOf; split <;> (try split) <;> omega
  go_enter Try.func14, Try.ntmps14
  go_wp2_with fail
  rw [hm]
  have HM := Lib.hid hm
  clear hm w0
  refine (new_any own0 1 m _).mono ?_
  rw [hmost]
  rintro e w1 ⟨own1, x1, rfl, hp, h1⟩
  replace x1 := x1.mono (jds := [1]) (by simp)
  have HMO := Lib.hid hmost
  clear hmost
  generalize w.heap.size = p at *
  go_wp2_with fail
  go_loopw [17] (fun v wr => ∃ (k : Nat) (own : Nat → Nat) (l : List Int), v = .int .i64 k ∧ k ≤ m + 3 ∧ Ext own0 own [1] w wr ∧ HP own 1 wr p m l ∧ l.length = min k m) (fun v _ => m + 3 - (intOf v).toNat)
  case atStart => exact ⟨0, own1, [], rfl, by omega, x1, h1, by simp⟩
  case round =>
    obtain ⟨k, own, l, rfl, hk, x, h, hl⟩ := hrel
    by_cases hlt : k < m + 3
    · by_cases hkm : k < m
      · have hv := var_room own 1 p m l wr h (by omega)
        have hlk : l.length = k := by omega
        rw [hlk] at hv
        have HL := Lib.hid hlk
        have HL2 := Lib.hid hl
        clear hl hlk
        go_wp2_with (go_at_call 49; refine hv.mono ?_; rintro e w' ⟨own2, x2, rfl, h2⟩)
        go_roundw
        case rel => exact ⟨k + 1, own2, _, by go_num, by omega, x.trans x2, h2, by have := HL.out; simp; omega⟩
        case measure => simp [intOf]; omega
      · have hv := var_full own 1 p m l wr h (by omega)
        have HL2 := Lib.hid hl
        clear hl
        go_wp2_with (go_at_call 49; refine hv.mono ?_; rintro e w' ⟨rfl, n, rfl⟩)
        go_roundw
        case rel => exact ⟨k + 1, own, l, by go_num, by omega, x.drewN n, h.dr n, by have := HL2.out; omega⟩
        case measure => simp [intOf]; omega
    · have hkk : l.length = m := by omega
      by_cases hm0 : m = 0
      · subst hm0
        have hc := cut_out own 1 p 0 1 l wr h (by omega)
        go_wp2_with (first | (go_at_call 50; refine hc.mono ?_; rintro e w' ⟨rfl, n, rfl⟩) | (go_at_call 51; refine (awake5_any _).mono ?_; rintro e w' ⟨rfl, hb⟩))
        go_ret
        exact ⟨rfl, ((x.drewN _).belowStep hb).done (by decide)⟩
      · have hm00 : ((m : Int) == 0) = false := by rw [beq_eq_false_iff_ne]; omega
        have hp0 := push_full own 1 p m 0 l wr h (by omega)
        have hml : 0 ≤ (m : Int) - 1 := by omega
        have hml2 : (m : Int) - 1 ≤ l.length := by omega
        go_wp2_with (first | (go_at_call 52; refine hp0.mono ?_; rintro e w' ⟨rfl, n, rfl⟩) | (go_at_call 50; refine (cut_in own 1 p m (m - 1) l _ (h.dr _) hml hml2).mono ?_; rintro e w' ⟨own2, x2, rfl, h2⟩))
        have hl2 : ((l.take ((m : Int) - 1).toNat).length : Int) = m - 1 := by rw [List.length_take]; omega
        generalize l.take ((m : Int) - 1).toNat = l2 at *
        have hn := len_any own2 1 p m l2 _ h2
        rw [hl2] at hn
        have HL2 := Lib.hid hl2
        clear hl2 hkk hl
        go_wp2_with (first | (go_at_call 53; refine hn.mono ?_; rintro e w' ⟨rfl, n, rfl⟩) | (go_at_call 51; refine (awake5_any _).mono ?_; rintro e w' ⟨rfl, hb⟩))
        go_ret
        exact ⟨rfl, (((x.trans x2.ofDrew).drewN _).belowStep hb).done (by decide)⟩

end Go.Proofs.Ytaahamgjhlnjnaa
