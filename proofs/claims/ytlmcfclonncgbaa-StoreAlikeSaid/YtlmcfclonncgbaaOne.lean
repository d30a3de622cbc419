/- What is wrong with a node (package term), by a contract. -/
import Derived.Test.YtlmcfclonncgbaaMay
namespace Go.Proofs.Ytlmcfclonncgbaa
open Go.RowKit
set_option linter.unusedVariables false

set_option maxHeartbeats 1600000 in
set_option maxRecDepth 100000 in
theorem one_any (t : Tm) (sl : Value) (own : Nat → Nat) (w : World) (h : TmS own w t sl) :
    Calls Try.prog 156 #[valT t sl] w (Does own [] w fun own' e w' => e = .returned (.int .i64 (oneE t))) := by
  obtain ⟨k, s, n, re, im, args⟩ := t
  obtain ⟨A, len, cap, rfl, hL⟩ := h.args
  obtain ⟨_, _, _, _, hsz⟩ := h.rng
  replace hL : TmL own w args A len cap := hL
  have hlen := hL.1
  have hle := hL.2.1
  have hmax := hL.2.2.1
  unfold maxLen at hmax
  replace hsz : s.size ≤ 2 ^ 63 - 1 := hsz
  rw [valT_mk]
  have hn0 : (0 : Int) ≤ (s.size : Int) := by omega
  clear hL h
  by_cases k1 : k = 1
  · subst k1
    by_cases h2 : n < 0
    · skip
      have hE : oneE (.mk 1 s n re im args) = 1 := by rw [oneE_mk]; split <;> (try split) <;> first | rfl | omega
      rw [hE]
      go_enter Try.func156, Try.ntmps156
      go_wp2_with fail
      go_ret
      exact ⟨own, (Ext.refl own [] w).alloc _, rfl⟩
    · have h2' : 0 ≤ n := by omega
      have hE : oneE (.mk 1 s n re im args) = 0 := by rw [oneE_mk]; split <;> (try split) <;> first | rfl | omega
      rw [hE]
      go_enter Try.func156, Try.ntmps156
      go_wp2_with fail
      go_ret
      exact ⟨own, (Ext.refl own [] w).alloc _, rfl⟩
  · have k1' : (k == 1) = false := by simpa using k1
    by_cases k2 : k = 2
    · subst k2
      by_cases h3 : 200 < s.size
      · have h3' : (200 : Int) < (s.size : Int) := by omega
        have hE : oneE (.mk 2 s n re im args) = 3 := by rw [oneE_mk]; split <;> (try split) <;> first | rfl | omega
        rw [hE]
        go_enter Try.func156, Try.ntmps156
        go_wp2_with fail
        go_ret
        exact ⟨own, (Ext.refl own [] w).alloc _, rfl⟩
      · have h3' : (s.size : Int) ≤ 200 := by omega
        have hE : oneE (.mk 2 s n re im args) = 0 := by rw [oneE_mk]; split <;> (try split) <;> first | rfl | omega
        rw [hE]
        go_enter Try.func156, Try.ntmps156
        go_wp2_with fail
        go_ret
        exact ⟨own, (Ext.refl own [] w).alloc _, rfl⟩
    · have k2' : (k == 2) = false := by simpa using k2
      by_cases k5 : k = 5
      · subst k5
        by_cases h2 : len = 0
        · have h2' : args.length = 0 := by omega
          have hE : oneE (.mk 5 s n re im args) = 1 := by rw [oneE_mk]; split <;> (try split) <;> first | rfl | omega
          rw [hE]
          subst h2
          go_enter Try.func156, Try.ntmps156
          go_wp2_with fail
          go_ret
          exact ⟨own, (Ext.refl own [] w).alloc _, rfl⟩
        · have h2a : ((len : Int) == 0) = false := by simp; omega
          by_cases h3 : 200 < s.size
          · have h3' : (200 : Int) < (s.size : Int) := by omega
            have hE : oneE (.mk 5 s n re im args) = 3 := by rw [oneE_mk]; split <;> (try split) <;> first | rfl | omega
            rw [hE]
            go_enter Try.func156, Try.ntmps156
            go_wp2_with fail
            go_ret
            exact ⟨own, (Ext.refl own [] w).alloc _, rfl⟩
          · have h3' : (s.size : Int) ≤ 200 := by omega
            by_cases h4 : 20 < args.length
            · have h4' : (20 : Int) < (len : Int) := by omega
              have hE : oneE (.mk 5 s n re im args) = 3 := by rw [oneE_mk]; split <;> (try split) <;> first | rfl | omega
              rw [hE]
              go_enter Try.func156, Try.ntmps156
              go_wp2_with fail
              go_ret
              exact ⟨own, (Ext.refl own [] w).alloc _, rfl⟩
            · have h4' : (len : Int) ≤ 20 := by omega
              have hE : oneE (.mk 5 s n re im args) = 0 := by rw [oneE_mk]; split <;> (try split) <;> first | rfl | omega
              rw [hE]
              go_enter Try.func156, Try.ntmps156
              go_wp2_with fail
              go_ret
              exact ⟨own, (Ext.refl own [] w).alloc _, rfl⟩
      · have k5' : (k == 5) = false := by simpa using k5
        by_cases k3 : k = 3
        · subst k3
          have hE : oneE (.mk 3 s n re im args) = 0 := by rw [oneE_mk]; split <;> (try split) <;> first | rfl | omega
          rw [hE]
          go_enter Try.func156, Try.ntmps156
          go_wp2_with fail
          go_ret
          exact ⟨own, (Ext.refl own [] w).alloc _, rfl⟩
        · have k3' : (k == 3) = false := by simpa using k3
          by_cases k4 : k = 4
          · subst k4
            have hE : oneE (.mk 4 s n re im args) = 0 := by rw [oneE_mk]; split <;> (try split) <;> first | rfl | omega
            rw [hE]
            go_enter Try.func156, Try.ntmps156
            go_wp2_with fail
            go_ret
            exact ⟨own, (Ext.refl own [] w).alloc _, rfl⟩
          · have k4' : (k == 4) = false := by simpa using k4
            have hE : oneE (.mk k s n re im args) = 1 := by rw [oneE_mk]; split <;> (try split) <;> first | rfl | omega
            rw [hE]
            go_enter Try.func156, Try.ntmps156
            go_wp2_with fail
            go_ret
            exact ⟨own, (Ext.refl own [] w).alloc _, rfl⟩

end Go.Proofs.Ytlmcfclonncgbaa
