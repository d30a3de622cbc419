/- The heap's Deref (package heap): references followed to their end, at most as many as there are cells. -/
import Derived.Test.YtlmcfclonncgbaaPk1
import Derived.ScopeJumps
namespace Go.Proofs.Ytlmcfclonncgbaa
open Go.RowKit

theorem told_some (p : Nat) (c : Int) (w : World) : Calls Try.prog 152 #[.pointer (some ⟨p, 0, none⟩), .int .u64 c] w fun e w' => e = .returned (.int .u64 c) ∧ w' = w := by
  go_enter Try.func152, Try.ntmps152
  go_wp2
  go_ret
  exact ⟨rfl, rfl⟩
theorem told_nil (c : Int) (w : World) : Calls Try.prog 152 #[.pointer none, .int .u64 c] w fun e w' => e = .returned (.int .u64 0) ∧ w' = w := by
  go_enter Try.func152, Try.ntmps152
  go_wp2
  go_ret
  exact ⟨rfl, rfl⟩
theorem deref_nil (c : Int) (w : World) : Calls Try.prog 109 #[.pointer none, .int .u64 c] w (Quiet w (.int .u64 0)) := by
  go_enter Try.func109, Try.ntmps109
  go_wp2_with fail
  refine wp_scope_jumps 0 (fun _ _ => False) (fun _ _ => 0) rfl ?_ (fun _ _ h => h.elim)
  go_wp2_with fail
  go_step3
  go_wp2_with fail
  go_quiet (fail)
  go_wp2_with (go_at_call 152; refine (told_nil _ _).mono ?_; rintro e w' ⟨rfl, rfl⟩)
  simp only [Exit.jump]
  go_ret
  exact ⟨rfl, _, rfl⟩

theorem derefF_stop (l : List Int) (n : Nat) (c : Int) (h : ¬ (c % 8 = 0 ∧ c / 8 < l.length)) : derefF l n c = c := by
  cases n with
  | zero => rfl
  | succ n => simp only [derefF]; rw [if_neg h]
theorem getD_nonneg {l : List Int} (h : ∀ x ∈ l, 0 ≤ x) (m : Nat) : 0 ≤ l.getD m 0 := by
  by_cases hm : m < l.length
  · simp only [List.getD, List.getElem?_eq_getElem hm, Option.getD_some]
    exact h _ (List.getElem_mem hm)
  · simp [List.getD, List.getElem?_eq_none (Nat.le_of_not_lt hm)]

set_option maxHeartbeats 1600000 in
set_option maxRecDepth 100000 in
theorem deref_any (own : Nat → Nat) (id p : Nat) (most c : Int) (l : List Int) (w : World) (h : HP own id w p most l) (hc0 : 0 ≤ c) (hl0 : ∀ x ∈ l, 0 ≤ x) :
    Calls Try.prog 109 #[.pointer (some ⟨p, 0, none⟩), .int .u64 c] w (Quiet w (.int .u64 (deref l c))) := by
  have hlen := h.len
  obtain ⟨v, hb, hr, h1, h2⟩ := h
  have c1 := hb.cell 1 rfl
  obtain ⟨A, cap, rfl, hc⟩ := hr.form
  go_enter Try.func109, Try.ntmps109
  go_wp2_with fail
  refine wp_scope_jumps 0 (fun a' w' => ∃ (n : Nat) (c' : Int) (k : Nat) (u6 u7 u8 u9 u10 u11 u12 u13 u14 u15 u16 u17 u18 u19 u20 u21 u22 u23 u24 u25 u26 u27 u28 u29 u30 u31 u32 u33 u34 u35 u36 u37 u38 u39 u40 u41 u42 u43 u44 u45 u46 u47 u48 u49 u50 u51 : Value), w' = w.drewN n ∧ a' = { tmps := #[.pointer (some ⟨p, 0, none⟩), .int .u64 c', undef, undef, .int .u64 0, .int .i64 (k : Int), u6, u7, u8, u9, u10, u11, u12, u13, u14, u15, u16, u17, u18, u19, u20, u21, u22, u23, u24, u25, u26, u27, u28, u29, u30, u31, u32, u33, u34, u35, u36, u37, u38, u39, u40, u41, u42, u43, u44, u45, u46, u47, u48, u49, u50, u51], defers := [] } ∧ derefF l (l.length - k) c' = deref l c ∧ k ≤ l.length ∧ 0 ≤ c')
    (fun a' _ => l.length - (intOf (a'.tmps.getD 5 undef)).toNat) rfl ?_ ?_
  · skip
    by_cases hA : c % 8 = 0
    · have qA : ((c % 8 : Int) != 0) = false := by simp [hA]
      by_cases hB : c / 8 < l.length
      · have qB : decide ((l.length : Int) ≤ c / 8) = false := by simp; omega
        obtain ⟨g, rfl⟩ : ∃ g, A = some ⟨g, 0, none⟩ := by
          obtain ⟨g, _, hv, _⟩ := hr.form_pos (by omega)
          exact ⟨g, (Value.slice.inj hv).1⟩
        obtain ⟨m, hm⟩ : ∃ m : Nat, c / 8 = m := ⟨(c / 8).toNat, by omega⟩
        have hml : m < l.length := by omega
        have ck := hr.cell m (words_get l m hml)
        have qW : IntKind.u64.wrap (l.length : Int) = l.length := wraps_u64' _ (by omega) (by omega)
        have qN : decide (l.length ≤ m) = false := by simp; omega
        have ht0 : 0 ≤ l.getD m 0 := getD_nonneg hl0 m
        have hun : ∀ n, derefF l (n + 1) c = if l.getD m 0 = c then c else derefF l n (l.getD m 0) := by
          intro n
          have e : (c / 8).toNat = m := by omega
          simp only [derefF, e]
          rw [if_pos ⟨hA, hB⟩]
        generalize l.getD m 0 = t at *
        obtain ⟨N, hN⟩ : ∃ N, l.length = N + 1 := ⟨l.length - 1, by omega⟩
        have HE : Hid (deref l c = if t = c then c else derefF l N t) := by unfold deref; rw [hN]; exact hun N
        have qS : ((0 : Int) == (l.length : Int)) = false := by rw [beq_eq_false_iff_ne]; omega
        have qS' : decide (0 = l.length) = false := decide_eq_false (by omega)
        have qS2 : decide (l.length = 0) = false := decide_eq_false (by omega)
        have HN := Lib.hid hN
        have HA := Lib.hid hA
        clear hun hN hA
        by_cases hT : t = c
        · have qT : (t == c) = true := by simp [hT]
          have HT := Lib.hid hT
          clear hT
          go_wp2_with fail
          go_step3
          go_wp2_with fail
          go_quiet ((first | (go_at_call 126; exact quiet_gen (tag_any _ _) (by first | exact ⟨_, rfl⟩ | exact ⟨0, rfl⟩)) | (go_at_call 111; exact quiet_gen (value_any _ _) (by first | exact ⟨_, rfl⟩ | exact ⟨0, rfl⟩))))
          go_wp2_with fail
          go_quiet ((first | (go_at_call 126; exact quiet_gen (tag_any _ _) (by first | exact ⟨_, rfl⟩ | exact ⟨0, rfl⟩)) | (go_at_call 111; exact quiet_gen (value_any _ _) (by first | exact ⟨_, rfl⟩ | exact ⟨0, rfl⟩))))
          go_wp2_with fail
          simp only [Exit.jump]
          go_ret
          refine ⟨ret_int ?_, _, rfl⟩
          rw [HE.out, if_pos HT.out]
        · have qT : (t == c) = false := by simp [hT]
          have HT := Lib.hid hT
          clear hT
          go_wp2_with fail
          go_step3
          go_wp2_with fail
          go_quiet ((first | (go_at_call 126; exact quiet_gen (tag_any _ _) (by first | exact ⟨_, rfl⟩ | exact ⟨0, rfl⟩)) | (go_at_call 111; exact quiet_gen (value_any _ _) (by first | exact ⟨_, rfl⟩ | exact ⟨0, rfl⟩))))
          go_wp2_with fail
          go_quiet ((first | (go_at_call 126; exact quiet_gen (tag_any _ _) (by first | exact ⟨_, rfl⟩ | exact ⟨0, rfl⟩)) | (go_at_call 111; exact quiet_gen (value_any _ _) (by first | exact ⟨_, rfl⟩ | exact ⟨0, rfl⟩))))
          go_wp2_with fail
          go_step3
          refine ⟨rfl, _, t, 1, _, _, _, _, _, _, _, _, _, _, _, _, _, _, _, _, _, _, _, _, _, _, _, _, _, _, _, _, _, _, _, _, _, _, _, _, _, _, _, _, _, _, _, _, _, _, rfl, rfl, ?_, by omega, ht0⟩
          rw [HE.out, if_neg HT.out, HN.out, Nat.add_sub_cancel]
      · have qB : decide ((l.length : Int) ≤ c / 8) = true := by simp; omega
        have qW : IntKind.u64.wrap (l.length : Int) = l.length := wraps_u64' _ (by omega) (by omega)
        have HE : Hid (deref l c = c) := by unfold deref; exact derefF_stop _ _ _ (by omega)
        have HA := Lib.hid hA
        clear hA
        go_wp2_with fail
        go_step3
        go_wp2_with fail
        go_quiet ((first | (go_at_call 126; exact quiet_gen (tag_any _ _) (by first | exact ⟨_, rfl⟩ | exact ⟨0, rfl⟩)) | (go_at_call 111; exact quiet_gen (value_any _ _) (by first | exact ⟨_, rfl⟩ | exact ⟨0, rfl⟩))))
        go_wp2_with (go_at_call 152; refine (told_some _ _ _).mono ?_; rintro e w' ⟨rfl, rfl⟩)
        simp only [Exit.jump]
        go_ret
        exact ⟨ret_int HE.out.symm, _, rfl⟩
    · have qA : ((c % 8 : Int) != 0) = true := by simp [hA]
      have HE : Hid (deref l c = c) := by unfold deref; exact derefF_stop _ _ _ (by omega)
      have HA := Lib.hid hA
      clear hA
      go_wp2_with fail
      go_step3
      go_wp2_with fail
      go_quiet ((first | (go_at_call 126; exact quiet_gen (tag_any _ _) (by first | exact ⟨_, rfl⟩ | exact ⟨0, rfl⟩)) | (go_at_call 111; exact quiet_gen (value_any _ _) (by first | exact ⟨_, rfl⟩ | exact ⟨0, rfl⟩))))
      go_wp2_with (go_at_call 152; refine (told_some _ _ _).mono ?_; rintro e w' ⟨rfl, rfl⟩)
      simp only [Exit.jump]
      go_ret
      exact ⟨ret_int HE.out.symm, _, rfl⟩
  · rintro a' w' ⟨n, c', k, u6, u7, u8, u9, u10, u11, u12, u13, u14, u15, u16, u17, u18, u19, u20, u21, u22, u23, u24, u25, u26, u27, u28, u29, u30, u31, u32, u33, u34, u35, u36, u37, u38, u39, u40, u41, u42, u43, u44, u45, u46, u47, u48, u49, u50, u51, rfl, rfl, hD, hk, hc0'⟩
    obtain ⟨W, hW⟩ : ∃ W, w.drewN n = W := ⟨_, rfl⟩
    rw [hW]
    replace hb : Blk own id W p [.int .i64 most, .slice A l.length cap] 121 := by rw [← hW]; exact hb
    replace hr : Row own id W 34 1 (.slice A l.length cap) l.length (words l) := by rw [← hW]; exact hr
    clear c1
    have c1 := hb.cell 1 rfl
    have HW := Lib.hid hW
    clear hW
    by_cases hA : c' % 8 = 0
    · have qA : ((c' % 8 : Int) != 0) = false := by simp [hA]
      by_cases hB : c' / 8 < l.length
      · have qB : decide ((l.length : Int) ≤ c' / 8) = false := by simp; omega
        obtain ⟨g, rfl⟩ : ∃ g, A = some ⟨g, 0, none⟩ := by
          obtain ⟨g, _, hv, _⟩ := hr.form_pos (by omega)
          exact ⟨g, (Value.slice.inj hv).1⟩
        obtain ⟨m, hm⟩ : ∃ m : Nat, c' / 8 = m := ⟨(c' / 8).toNat, by omega⟩
        have hml : m < l.length := by omega
        have ck := hr.cell m (words_get l m hml)
        have qW : IntKind.u64.wrap (l.length : Int) = l.length := wraps_u64' _ (by omega) (by omega)
        have qN : decide (l.length ≤ m) = false := by simp; omega
        have ht0 : 0 ≤ l.getD m 0 := getD_nonneg hl0 m
        have hun : ∀ n, derefF l (n + 1) c' = if l.getD m 0 = c' then c' else derefF l n (l.getD m 0) := by
          intro n
          have e : (c' / 8).toNat = m := by omega
          simp only [derefF, e]
          rw [if_pos ⟨hA, hB⟩]
        generalize l.getD m 0 = t at *
        by_cases hS : k = l.length
        · have qS : ((k : Int) == (l.length : Int)) = true := by simp [hS]
          have qS' : decide (k = l.length) = true := by simp [hS]
          have HE : Hid (deref l c = c') := by
            rw [← hD, hS, Nat.sub_self]; rfl
          have HA := Lib.hid hA
          clear hun hD hS hA
          go_wp2_with fail
          go_quiet ((first | (go_at_call 126; exact quiet_gen (tag_any _ _) (by first | exact ⟨_, rfl⟩ | exact ⟨0, rfl⟩)) | (go_at_call 111; exact quiet_gen (value_any _ _) (by first | exact ⟨_, rfl⟩ | exact ⟨0, rfl⟩))))
          go_wp2_with (go_at_call 152; refine (told_some _ _ _).mono ?_; rintro e w' ⟨rfl, rfl⟩)
          simp only [Exit.jump]
          go_ret
          exact ⟨ret_int HE.out.symm, _, by rw [← HW.out]; exact World.drewN_drewN _ _ _⟩
        · have qS : ((k : Int) == (l.length : Int)) = false := by simp; omega
          have qS' : decide (k = l.length) = false := by simp; omega
          have HE : Hid (deref l c = if t = c' then c' else derefF l (l.length - (k + 1)) t) := by
            rw [← hD, show l.length - k = (l.length - (k + 1)) + 1 by omega]; exact hun _
          have HA := Lib.hid hA
          clear hun hD hA
          by_cases hT : t = c'
          · have qT : (t == c') = true := by simp [hT]
            have HT := Lib.hid hT
            clear hT
            go_wp2_with fail
            go_quiet ((first | (go_at_call 126; exact quiet_gen (tag_any _ _) (by first | exact ⟨_, rfl⟩ | exact ⟨0, rfl⟩)) | (go_at_call 111; exact quiet_gen (value_any _ _) (by first | exact ⟨_, rfl⟩ | exact ⟨0, rfl⟩))))
            go_wp2_with fail
            go_quiet ((first | (go_at_call 126; exact quiet_gen (tag_any _ _) (by first | exact ⟨_, rfl⟩ | exact ⟨0, rfl⟩)) | (go_at_call 111; exact quiet_gen (value_any _ _) (by first | exact ⟨_, rfl⟩ | exact ⟨0, rfl⟩))))
            go_wp2_with fail
            simp only [Exit.jump]
            go_ret
            refine ⟨ret_int ?_, _, by rw [← HW.out]; exact World.drewN_drewN _ _ _⟩
            rw [HE.out, if_pos HT.out]
          · have qT : (t == c') = false := by simp [hT]
            have HT := Lib.hid hT
            clear hT
            go_wp2_with fail
            go_quiet ((first | (go_at_call 126; exact quiet_gen (tag_any _ _) (by first | exact ⟨_, rfl⟩ | exact ⟨0, rfl⟩)) | (go_at_call 111; exact quiet_gen (value_any _ _) (by first | exact ⟨_, rfl⟩ | exact ⟨0, rfl⟩))))
            go_wp2_with fail
            go_quiet ((first | (go_at_call 126; exact quiet_gen (tag_any _ _) (by first | exact ⟨_, rfl⟩ | exact ⟨0, rfl⟩)) | (go_at_call 111; exact quiet_gen (value_any _ _) (by first | exact ⟨_, rfl⟩ | exact ⟨0, rfl⟩))))
            go_wp2_with fail
            go_step3
            refine ⟨rfl, ⟨_, t, k + 1, _, _, _, _, _, _, _, _, _, _, _, _, _, _, _, _, _, _, _, _, _, _, _, _, _, _, _, _, _, _, _, _, _, _, _, _, _, _, _, _, _, _, _, _, _, _, by rw [← HW.out]; exact World.drewN_drewN _ _ _, by go_num, ?_, by omega, ht0⟩, ?_⟩
            · rw [HE.out, if_neg HT.out]
            · simp [intOf]; omega
      · have qB : decide ((l.length : Int) ≤ c' / 8) = true := by simp; omega
        have qW : IntKind.u64.wrap (l.length : Int) = l.length := wraps_u64' _ (by omega) (by omega)
        have HE : Hid (deref l c = c') := by rw [← hD]; exact derefF_stop _ _ _ (by omega)
        have HA := Lib.hid hA
        clear hA hD
        go_wp2_with fail
        go_quiet ((first | (go_at_call 126; exact quiet_gen (tag_any _ _) (by first | exact ⟨_, rfl⟩ | exact ⟨0, rfl⟩)) | (go_at_call 111; exact quiet_gen (value_any _ _) (by first | exact ⟨_, rfl⟩ | exact ⟨0, rfl⟩))))
        go_wp2_with (go_at_call 152; refine (told_some _ _ _).mono ?_; rintro e w' ⟨rfl, rfl⟩)
        simp only [Exit.jump]
        go_ret
        exact ⟨ret_int HE.out.symm, _, by rw [← HW.out]; exact World.drewN_drewN _ _ _⟩
    · have qA : ((c' % 8 : Int) != 0) = true := by simp [hA]
      have HE : Hid (deref l c = c') := by rw [← hD]; exact derefF_stop _ _ _ (by omega)
      have HA := Lib.hid hA
      clear hA hD
      go_wp2_with fail
      go_quiet ((first | (go_at_call 126; exact quiet_gen (tag_any _ _) (by first | exact ⟨_, rfl⟩ | exact ⟨0, rfl⟩)) | (go_at_call 111; exact quiet_gen (value_any _ _) (by first | exact ⟨_, rfl⟩ | exact ⟨0, rfl⟩))))
      go_wp2_with (go_at_call 152; refine (told_some _ _ _).mono ?_; rintro e w' ⟨rfl, rfl⟩)
      simp only [Exit.jump]
      go_ret
      exact ⟨ret_int HE.out.symm, _, by rw [← HW.out]; exact World.drewN_drewN _ _ _⟩

end Go.Proofs.Ytlmcfclonncgbaa
