/- The reference's Deref: references followed to their end, as the heap's own. -/
import Derived.Test.YtlmcfclonncgbaaRHeap
namespace Go.Proofs.Ytlmcfclonncgbaa
open Go.RowKit
set_option linter.unusedVariables false

set_option maxHeartbeats 1600000 in
set_option maxRecDepth 100000 in
theorem rderef_any (own : Nat → Nat) (id p : Nat) (most c : Int) (l : List Int) (w : World) (h : RH own id w p most l) (hc0 : 0 ≤ c) (hl0 : ∀ x ∈ l, 0 ≤ x) :
    Calls Try.prog 113 #[.pointer (some ⟨p, 0, none⟩), .int .u64 c] w (Quiet w (.int .u64 (deref l c))) := by
  have hlen := h.len
  have h' := h
  obtain ⟨v, hb, hr, h1, h2⟩ := h'
  have c1 := hb.cell 0 rfl
  obtain ⟨A, cap, rfl, hc⟩ := hr.form
  go_enter Try.func113, Try.ntmps113
  go_wp2_with fail
  go_loopw [10, 1] (fun v u wr => ∃ (k n : Nat) (c' : Int), v = .int .i64 k ∧ u = .int .u64 c' ∧ wr = w.drewN n ∧ derefF l (l.length - k) c' = deref l c ∧ k ≤ l.length ∧ 0 ≤ c') (fun v _ _ => l.length - (intOf v).toNat)
  case atStart => exact ⟨0, 0, c, rfl, rfl, rfl, rfl, by omega, hc0⟩
  case round =>
    obtain ⟨k, n, c', rfl, rfl, hwr, hD, hk, hc0'⟩ := hrel
    have hW : RH own id wr p most l := by rw [hwr]; exact h
    have hbW : Blk own id wr p [.slice A l.length cap, .int .i64 most] 135 := by rw [hwr]; exact hb
    have hrW : Row own id wr 34 1 (.slice A l.length cap) l.length (words l) := by rw [hwr]; exact hr
    have d1 := hbW.cell 0 rfl
    have HWR := Lib.hid hwr
    clear hwr c1 hb hr h
    by_cases hlt : k < l.length
    · by_cases hA : c' % 8 = 0
      · have qA : ((c' % 8 : Int) != 0) = false := by simp [hA]
        by_cases hB : c' / 8 < l.length
        · obtain ⟨g, rfl⟩ : ∃ g, A = some ⟨g, 0, none⟩ := by
            obtain ⟨g, _, hv, _⟩ := hrW.form_pos (by omega)
            exact ⟨g, (Value.slice.inj hv).1⟩
          obtain ⟨m, hm⟩ : ∃ m : Nat, c' / 8 = m := ⟨(c' / 8).toNat, by omega⟩
          have hml : m < l.length := by omega
          have ck := hrW.cell m (words_get l m hml)
          have ht0 : 0 ≤ l.getD m 0 := getD_nonneg hl0 m
          have HE : deref l c = if l.getD m 0 = c' then c' else derefF l (l.length - (k + 1)) (l.getD m 0) := by
            have e : (c' / 8).toNat = m := by omega
            rw [← hD, show l.length - k = (l.length - (k + 1)) + 1 by omega]
            simp only [derefF, e]
            rw [if_pos ⟨hA, hB⟩]
          generalize l.getD m 0 = t at *
          replace HE := Lib.hid HE
          rw [hm] at hB
          have HA := Lib.hid hA
          clear hD hA
          by_cases hT : t = c'
          · have qT : (t == c') = true := by simp [hT]
            have HT := Lib.hid hT
            clear hT
            go_wp2_with fail
            go_quiet ((first | (go_at_call 133; exact quiet_gen (rtag_any _ _) (by first | exact ⟨_, rfl⟩ | exact ⟨0, rfl⟩)) | (go_at_call 132; exact quiet_gen (rvalue_any _ _) (by first | exact ⟨_, rfl⟩ | exact ⟨0, rfl⟩)) | (go_at_call 134; exact quiet_gen (rin_true own id p most _ l _ (by omega) (by exact hW)) (by first | exact ⟨_, rfl⟩ | exact ⟨0, rfl⟩))))
            go_wp2_with fail
            go_ret
            exact ⟨ret_int (by rw [HE.out, if_pos HT.out]), _, by rw [HWR.out]; exact World.drewN_drewN _ _ _⟩
          · have qT : (t == c') = false := by simp [hT]
            have HT := Lib.hid hT
            clear hT
            go_wp2_with fail
            go_quiet ((first | (go_at_call 133; exact quiet_gen (rtag_any _ _) (by first | exact ⟨_, rfl⟩ | exact ⟨0, rfl⟩)) | (go_at_call 132; exact quiet_gen (rvalue_any _ _) (by first | exact ⟨_, rfl⟩ | exact ⟨0, rfl⟩)) | (go_at_call 134; exact quiet_gen (rin_true own id p most _ l _ (by omega) (by exact hW)) (by first | exact ⟨_, rfl⟩ | exact ⟨0, rfl⟩))))
            go_wp2_with fail
            go_quiet ((first | (go_at_call 133; exact quiet_gen (rtag_any _ _) (by first | exact ⟨_, rfl⟩ | exact ⟨0, rfl⟩)) | (go_at_call 132; exact quiet_gen (rvalue_any _ _) (by first | exact ⟨_, rfl⟩ | exact ⟨0, rfl⟩)) | (go_at_call 134; exact quiet_gen (rin_true own id p most _ l _ (by omega) (by exact hW)) (by first | exact ⟨_, rfl⟩ | exact ⟨0, rfl⟩))))
            go_wp2_with fail
            go_roundw
            case rel => exact ⟨k + 1, _, t, by go_num, rfl, by rw [HWR.out]; exact World.drewN_drewN _ _ _, by rw [HE.out, if_neg HT.out], by omega, ht0⟩
            case measure => simp [intOf]; omega
        · have HE : Hid (deref l c = c') := by rw [← hD]; exact derefF_stop _ _ _ (by omega)
          have HA := Lib.hid hA
          clear hA hD
          go_wp2_with fail
          go_quiet ((first | (go_at_call 133; exact quiet_gen (rtag_any _ _) (by first | exact ⟨_, rfl⟩ | exact ⟨0, rfl⟩)) | (go_at_call 132; exact quiet_gen (rvalue_any _ _) (by first | exact ⟨_, rfl⟩ | exact ⟨0, rfl⟩)) | (go_at_call 134; exact quiet_gen (rin_false own id p most _ l _ (by omega) (by exact hW)) (by first | exact ⟨_, rfl⟩ | exact ⟨0, rfl⟩))))
          go_wp2_with fail
          go_ret
          exact ⟨ret_int HE.out.symm, _, by rw [HWR.out]; exact World.drewN_drewN _ _ _⟩
      · have qA : ((c' % 8 : Int) != 0) = true := by simp [hA]
        have HE : Hid (deref l c = c') := by rw [← hD]; exact derefF_stop _ _ _ (by omega)
        have HA := Lib.hid hA
        clear hA hD
        go_wp2_with fail
        go_quiet ((go_at_call 133; exact quiet_gen (rtag_any _ _) (by first | exact ⟨_, rfl⟩ | exact ⟨0, rfl⟩)))
        go_wp2_with fail
        go_ret
        exact ⟨ret_int HE.out.symm, _, by rw [HWR.out]; exact World.drewN_drewN _ _ _⟩
    · have HE : Hid (deref l c = c') := by
        rw [← hD, show l.length - k = 0 by omega]; rfl
      clear hD
      go_wp2_with fail
      go_ret
      exact ⟨ret_int HE.out.symm, _, HWR.out⟩

end Go.Proofs.Ytlmcfclonncgbaa
