-- PRINTED BY print.sh 35421559b90ae4d0a3588c463048766b98c2df88dd9212a6774a882060cdf62d: not written by this session
import Derived.Test.YtaahamgjhlnjnaaPCellNumbersx0
namespace Go.Proofs.Ytaahamgjhlnjnaa.PCellNumbers
open Go.RowKit Go.Proofs.YtaahamgjhlnjnaaW.PrintWords Go.Proofs.YtaahamgjhlnjnaaW.PrintLast Go.Proofs.YtaahamgjhlnjnaaW.PrintMore
attribute [local go_sem] max2_int min2_int max_two min_two max_three min_three max_four min_four   -- for this text's walks alone
set_option linter.unusedVariables false
set_option linter.unusedSimpArgs false

/-! ### cell_Small: function 25 -/
def cell_Small.f (a0 : Int) : Option (Int × Bool) := if a0 < (-1152921504606846976) then (some (0, false)) else (if a0 > 1152921504606846975 then (some (0, false)) else (some (Go.bits .or .u64 (IntKind.u64.wrap ((IntKind.u64.wrap (a0)) * 8)) 3, true)))
set_option maxHeartbeats 8000000 in
set_option maxRecDepth 100000 in
theorem cell_Small.calls (a0 : Int) (r1 : Int) (r2 : Bool) (w : World) (h : cell_Small.f a0 = some (r1, r2)) :
    Calls Try.prog 25 #[.int .i64 a0] w fun e w' => e = .returned (.tuple #[.int .u64 r1, .bool r2]) ∧ Drawn0 w w' := by
  have H : (if a0 < (-1152921504606846976) then (some (0, false)) else (if a0 > 1152921504606846975 then (some (0, false)) else (some (Go.bits .or .u64 (IntKind.u64.wrap ((IntKind.u64.wrap (a0)) * 8)) 3, true)))) = some (r1, r2) := h
  clear h
  by_cases c2 : a0 < (-1152921504606846976)
  · rw [if_pos c2] at H
    have c2b0 : decide (a0 < (-1152921504606846976)) = true := decide_eq_true c2
    clear c2
    simp only [Option.some.injEq, Prod.mk.injEq] at H
    obtain ⟨rfl, rfl⟩ := H
    go_enter Try.func25, Try.ntmps25
    go_wp2
    go_ret2
    exact ⟨by first | rfl | (simp; done) | (simp [*]; done), by repeat (first | exact Drawn0.refl _ | apply Drawn0.step)⟩
  · rw [if_neg c2] at H
    have c2b0 : decide (a0 < (-1152921504606846976)) = false := decide_eq_false c2
    clear c2
    by_cases c3 : a0 > 1152921504606846975
    · rw [if_pos c3] at H
      have c3b0 : decide (1152921504606846975 < a0) = true := decide_eq_true c3
      clear c3
      simp only [Option.some.injEq, Prod.mk.injEq] at H
      obtain ⟨rfl, rfl⟩ := H
      go_enter Try.func25, Try.ntmps25
      go_wp2
      go_ret2
      exact ⟨by first | rfl | (simp; done) | (simp [*]; done), by repeat (first | exact Drawn0.refl _ | apply Drawn0.step)⟩
    · rw [if_neg c3] at H
      have c3b0 : decide (1152921504606846975 < a0) = false := decide_eq_false c3
      clear c3
      simp only [Option.some.injEq, Prod.mk.injEq] at H
      obtain ⟨rfl, rfl⟩ := H
      go_enter Try.func25, Try.ntmps25
      go_wp2
      go_ret2
      exact ⟨by first | rfl | (simp; done) | (simp [*]; done), by repeat (first | exact Drawn0.refl _ | apply Drawn0.step)⟩

/-! ### cell_Int: function 26 -/
def cell_Int.f (a0 : Int) : Option (Int) := some ((wrap64 (a0)) / 8)
set_option maxHeartbeats 8000000 in
set_option maxRecDepth 100000 in
theorem cell_Int.calls (a0 : Int) (r : Int) (w : World) (h : cell_Int.f a0 = some r) :
    Calls Try.prog 26 #[.int .u64 a0] w fun e w' => e = .returned (.int .i64 r) ∧ Drawn0 w w' := by
  have H : (some ((wrap64 (a0)) / 8)) = some r := h
  clear h
  obtain rfl := Option.some.inj H
  go_enter Try.func26, Try.ntmps26
  go_wp2
  go_ret
  exact ⟨by first | rfl | (simp; done) | (simp [*]; done), by repeat (first | exact Drawn0.refl _ | apply Drawn0.step)⟩

/-! ### cell_Tag: function 30 -/
def cell_Tag.f (a0 : Int) : Option (Int) := some (wrap64 (Go.bits .and .u64 a0 7))
set_option maxHeartbeats 8000000 in
set_option maxRecDepth 100000 in
theorem cell_Tag.calls (a0 : Int) (r : Int) (w : World) (h : cell_Tag.f a0 = some r) :
    Calls Try.prog 30 #[.int .u64 a0] w fun e w' => e = .returned (.int .i64 r) ∧ Drawn0 w w' := by
  have H : (some (wrap64 (Go.bits .and .u64 a0 7))) = some r := h
  clear h
  obtain rfl := Option.some.inj H
  go_enter Try.func30, Try.ntmps30
  go_wp2
  go_ret
  exact ⟨by first | rfl | (simp; done) | (simp [*]; done), by repeat (first | exact Drawn0.refl _ | apply Drawn0.step)⟩

/-! ### cell_Value: function 32 -/
def cell_Value.f (a0 : Int) : Option (Int) := some (a0 / 8)
set_option maxHeartbeats 8000000 in
set_option maxRecDepth 100000 in
theorem cell_Value.calls (a0 : Int) (r : Int) (w : World) (h : cell_Value.f a0 = some r) :
    Calls Try.prog 32 #[.int .u64 a0] w fun e w' => e = .returned (.int .u64 r) ∧ Drawn0 w w' := by
  have H : (some (a0 / 8)) = some r := h
  clear h
  obtain rfl := Option.some.inj H
  go_enter Try.func32, Try.ntmps32
  go_wp2
  go_ret
  exact ⟨by first | rfl | (simp; done) | (simp [*]; done), by repeat (first | exact Drawn0.refl _ | apply Drawn0.step)⟩

/-! ### elenchuslaw4_awake: function 27 -/
def elenchuslaw4_awake.f  : Option (Bool) := (cell_Small.f (-1)).bind fun bt101 => (if bt101.2 = true then ((cell_Tag.f bt101.1).bind fun t103 => (if t103 = 3 then ((cell_Value.f bt101.1).bind fun t104 => (if t104 = 2305843009213693951 then ((cell_Int.f bt101.1).bind fun t105 => (some (t105 == (-1)))) else (some false))) else (some false))) else (some false))
set_option maxHeartbeats 8000000 in
set_option maxRecDepth 100000 in
theorem elenchuslaw4_awake.calls  (r : Bool) (w : World) (h : elenchuslaw4_awake.f  = some r) :
    Calls Try.prog 27 #[] w fun e w' => e = .returned (.bool r) ∧ Drawn0 w w' := by
  have H : ((cell_Small.f (-1)).bind fun bt101 => (if bt101.2 = true then ((cell_Tag.f bt101.1).bind fun t103 => (if t103 = 3 then ((cell_Value.f bt101.1).bind fun t104 => (if t104 = 2305843009213693951 then ((cell_Int.f bt101.1).bind fun t105 => (some (t105 == (-1)))) else (some false))) else (some false))) else (some false))) = some r := h
  clear h
  replace H := Option.bind_eq_some_iff.mp H
  obtain ⟨⟨t101, t102⟩, A10, H⟩ := H
  replace H : (if t102 = true then ((cell_Tag.f t101).bind fun t103 => (if t103 = 3 then ((cell_Value.f t101).bind fun t104 => (if t104 = 2305843009213693951 then ((cell_Int.f t101).bind fun t105 => (some (t105 == (-1)))) else (some false))) else (some false))) else (some false)) = some r := H
  have A1 := Aside0.mk A10
  clear A10
  by_cases c2 : t102 = true
  · subst c2
    have H1 : ((cell_Tag.f t101).bind fun t103 => (if t103 = 3 then ((cell_Value.f t101).bind fun t104 => (if t104 = 2305843009213693951 then ((cell_Int.f t101).bind fun t105 => (some (t105 == (-1)))) else (some false))) else (some false))) = some r := by rw [if_pos rfl] at H; exact H
    clear H
    have H := H1
    clear H1
    replace H := Option.bind_eq_some_iff.mp H
    obtain ⟨t103, A30, H⟩ := H
    replace H : (if t103 = 3 then ((cell_Value.f t101).bind fun t104 => (if t104 = 2305843009213693951 then ((cell_Int.f t101).bind fun t105 => (some (t105 == (-1)))) else (some false))) else (some false)) = some r := H
    have A3 := Aside0.mk A30
    clear A30
    by_cases c4 : t103 = 3
    · rw [if_pos c4] at H
      have c4b0 : (t103 == 3) = true := beq_iff_eq.mpr c4
      have c4b1 : (t103 != 3) = false := bne_eq_false_iff_eq.mpr c4
      clear c4
      replace H := Option.bind_eq_some_iff.mp H
      obtain ⟨t104, A50, H⟩ := H
      replace H : (if t104 = 2305843009213693951 then ((cell_Int.f t101).bind fun t105 => (some (t105 == (-1)))) else (some false)) = some r := H
      have A5 := Aside0.mk A50
      clear A50
      by_cases c6 : t104 = 2305843009213693951
      · rw [if_pos c6] at H
        have c6b0 : (t104 == 2305843009213693951) = true := beq_iff_eq.mpr c6
        have c6b1 : (t104 != 2305843009213693951) = false := bne_eq_false_iff_eq.mpr c6
        clear c6
        replace H := Option.bind_eq_some_iff.mp H
        obtain ⟨t105, A70, H⟩ := H
        replace H : (some (t105 == (-1))) = some r := H
        have A7 := Aside0.mk A70
        clear A70
        obtain rfl := Option.some.inj H
        go_enter Try.func27, Try.ntmps27
        go_wp2_with (first | ((with_reducible refine gate_callee (f := 25) rfl ?_); refine goesL_ (some 4) rfl rfl Try.func25 (by kernel_rfl) rfl #[.int .i64 (-1)] rfl (by (try simp only [List.map_toArray, List.map_cons, List.map_nil]); first | done | rfl | (simp only [List.length_drop, List.length_take]; rfl)) ?_; (with_reducible refine (cell_Small.calls (-1) t101 true _ A1.out).mono ?_); rintro e w' ⟨rfl, ⟨nd, rfl⟩⟩; refine ⟨_, rfl, ?_⟩) | (go_at_call 30; (with_reducible refine (cell_Tag.calls t101 t103 _ A3.out).mono ?_); rintro e w' ⟨rfl, ⟨nd, rfl⟩⟩) | (go_at_call 32; (with_reducible refine (cell_Value.calls t101 t104 _ A5.out).mono ?_); rintro e w' ⟨rfl, ⟨nd, rfl⟩⟩) | (go_at_call 26; (with_reducible refine (cell_Int.calls t101 t105 _ A7.out).mono ?_); rintro e w' ⟨rfl, ⟨nd, rfl⟩⟩))
        go_ret
        exact ⟨by first | rfl | (simp; done) | (simp [*]; done), by repeat (first | exact Drawn0.refl _ | apply Drawn0.step)⟩
      · rw [if_neg c6] at H
        have c6b0 : (t104 == 2305843009213693951) = false := beq_eq_false_iff_ne.mpr c6
        have c6b1 : (t104 != 2305843009213693951) = true := bne_iff_ne.mpr c6
        obtain rfl := Option.some.inj H
        go_enter Try.func27, Try.ntmps27
        go_wp2_with (first | ((with_reducible refine gate_callee (f := 25) rfl ?_); refine goesL_ (some 4) rfl rfl Try.func25 (by kernel_rfl) rfl #[.int .i64 (-1)] rfl (by (try simp only [List.map_toArray, List.map_cons, List.map_nil]); first | done | rfl | (simp only [List.length_drop, List.length_take]; rfl)) ?_; (with_reducible refine (cell_Small.calls (-1) t101 true _ A1.out).mono ?_); rintro e w' ⟨rfl, ⟨nd, rfl⟩⟩; refine ⟨_, rfl, ?_⟩) | (go_at_call 30; (with_reducible refine (cell_Tag.calls t101 t103 _ A3.out).mono ?_); rintro e w' ⟨rfl, ⟨nd, rfl⟩⟩) | (go_at_call 32; (with_reducible refine (cell_Value.calls t101 t104 _ A5.out).mono ?_); rintro e w' ⟨rfl, ⟨nd, rfl⟩⟩))
        go_ret
        exact ⟨by first | rfl | (simp; done) | (simp [*]; done), by repeat (first | exact Drawn0.refl _ | apply Drawn0.step)⟩
    · rw [if_neg c4] at H
      have c4b0 : (t103 == 3) = false := beq_eq_false_iff_ne.mpr c4
      have c4b1 : (t103 != 3) = true := bne_iff_ne.mpr c4
      obtain rfl := Option.some.inj H
      go_enter Try.func27, Try.ntmps27
      go_wp2_with (first | ((with_reducible refine gate_callee (f := 25) rfl ?_); refine goesL_ (some 4) rfl rfl Try.func25 (by kernel_rfl) rfl #[.int .i64 (-1)] rfl (by (try simp only [List.map_toArray, List.map_cons, List.map_nil]); first | done | rfl | (simp only [List.length_drop, List.length_take]; rfl)) ?_; (with_reducible refine (cell_Small.calls (-1) t101 true _ A1.out).mono ?_); rintro e w' ⟨rfl, ⟨nd, rfl⟩⟩; refine ⟨_, rfl, ?_⟩) | (go_at_call 30; (with_reducible refine (cell_Tag.calls t101 t103 _ A3.out).mono ?_); rintro e w' ⟨rfl, ⟨nd, rfl⟩⟩))
      go_ret
      exact ⟨by first | rfl | (simp; done) | (simp [*]; done), by repeat (first | exact Drawn0.refl _ | apply Drawn0.step)⟩
  · replace c2 := Bool.eq_false_iff.mpr c2
    subst c2
    have H1 : (some false) = some r := by rw [if_neg (show ¬ (false = true) by decide)] at H; exact H
    clear H
    have H := H1
    clear H1
    obtain rfl := Option.some.inj H
    go_enter Try.func27, Try.ntmps27
    go_wp2_with (first | ((with_reducible refine gate_callee (f := 25) rfl ?_); refine goesL_ (some 4) rfl rfl Try.func25 (by kernel_rfl) rfl #[.int .i64 (-1)] rfl (by (try simp only [List.map_toArray, List.map_cons, List.map_nil]); first | done | rfl | (simp only [List.length_drop, List.length_take]; rfl)) ?_; (with_reducible refine (cell_Small.calls (-1) t101 false _ A1.out).mono ?_); rintro e w' ⟨rfl, ⟨nd, rfl⟩⟩; refine ⟨_, rfl, ?_⟩))
    go_ret
    exact ⟨by first | rfl | (simp; done) | (simp [*]; done), by repeat (first | exact Drawn0.refl _ | apply Drawn0.step)⟩

/-! ### elenchusref4_Make: function 29 -/
def elenchusref4_Make.f (a0 : Int) (a1 : Int) : Option (Int) := some (Go.bits .or .u64 (IntKind.u64.wrap (a1 * 8)) (IntKind.u64.wrap (a0)))
set_option maxHeartbeats 8000000 in
set_option maxRecDepth 100000 in
theorem elenchusref4_Make.calls (a0 : Int) (a1 : Int) (r : Int) (w : World) (h : elenchusref4_Make.f a0 a1 = some r) :
    Calls Try.prog 29 #[.int .i64 a0, .int .u64 a1] w fun e w' => e = .returned (.int .u64 r) ∧ Drawn0 w w' := by
  have H : (some (Go.bits .or .u64 (IntKind.u64.wrap (a1 * 8)) (IntKind.u64.wrap (a0)))) = some r := h
  clear h
  obtain rfl := Option.some.inj H
  go_enter Try.func29, Try.ntmps29
  go_wp2
  go_ret
  exact ⟨by first | rfl | (simp; done) | (simp [*]; done), by repeat (first | exact Drawn0.refl _ | apply Drawn0.step)⟩

/-! ### elenchusref4_Small: function 39 -/
def elenchusref4_Small.f (a0 : Int) : Option (Int × Bool) := if a0 < (-1152921504606846976) then (some (0, false)) else (if a0 ≥ 1152921504606846976 then (some (0, false)) else ((elenchusref4_Make.f 3 (Go.bits .and .u64 (IntKind.u64.wrap (a0)) 2305843009213693951)).bind fun t106 => (some (t106, true))))
set_option maxHeartbeats 8000000 in
set_option maxRecDepth 100000 in
theorem elenchusref4_Small.calls (a0 : Int) (r1 : Int) (r2 : Bool) (w : World) (h : elenchusref4_Small.f a0 = some (r1, r2)) :
    Calls Try.prog 39 #[.int .i64 a0] w fun e w' => e = .returned (.tuple #[.int .u64 r1, .bool r2]) ∧ Drawn0 w w' := by
  have H : (if a0 < (-1152921504606846976) then (some (0, false)) else (if a0 ≥ 1152921504606846976 then (some (0, false)) else ((elenchusref4_Make.f 3 (Go.bits .and .u64 (IntKind.u64.wrap (a0)) 2305843009213693951)).bind fun t106 => (some (t106, true))))) = some (r1, r2) := h
  clear h
  by_cases c2 : a0 < (-1152921504606846976)
  · rw [if_pos c2] at H
    have c2b0 : decide (a0 < (-1152921504606846976)) = true := decide_eq_true c2
    clear c2
    simp only [Option.some.injEq, Prod.mk.injEq] at H
    obtain ⟨rfl, rfl⟩ := H
    go_enter Try.func39, Try.ntmps39
    go_wp2
    go_ret2
    exact ⟨by first | rfl | (simp; done) | (simp [*]; done), by repeat (first | exact Drawn0.refl _ | apply Drawn0.step)⟩
  · rw [if_neg c2] at H
    have c2b0 : decide (a0 < (-1152921504606846976)) = false := decide_eq_false c2
    clear c2
    by_cases c3 : a0 ≥ 1152921504606846976
    · rw [if_pos c3] at H
      have c3b0 : decide (1152921504606846976 ≤ a0) = true := decide_eq_true c3
      clear c3
      simp only [Option.some.injEq, Prod.mk.injEq] at H
      obtain ⟨rfl, rfl⟩ := H
      go_enter Try.func39, Try.ntmps39
      go_wp2
      go_ret2
      exact ⟨by first | rfl | (simp; done) | (simp [*]; done), by repeat (first | exact Drawn0.refl _ | apply Drawn0.step)⟩
    · rw [if_neg c3] at H
      have c3b0 : decide (1152921504606846976 ≤ a0) = false := decide_eq_false c3
      clear c3
      replace H := Option.bind_eq_some_iff.mp H
      obtain ⟨t106, A40, H⟩ := H
      replace H : (some (t106, true)) = some (r1, r2) := H
      have A4 := Aside0.mk A40
      clear A40
      simp only [Option.some.injEq, Prod.mk.injEq] at H
      obtain ⟨rfl, rfl⟩ := H
      go_enter Try.func39, Try.ntmps39
      go_wp2_with (first | ((with_reducible refine gate_callee (f := 29) rfl ?_); refine goesL_ (some 13) rfl rfl Try.func29 (by kernel_rfl) rfl #[.int .i64 3, .int .u64 (Go.bits .and .u64 (IntKind.u64.wrap (a0)) 2305843009213693951)] rfl (by (try simp only [List.map_toArray, List.map_cons, List.map_nil]); first | done | rfl | (simp only [List.length_drop, List.length_take]; rfl)) ?_; (with_reducible refine (elenchusref4_Make.calls 3 (Go.bits .and .u64 (IntKind.u64.wrap (a0)) 2305843009213693951) t106 _ A4.out).mono ?_); rintro e w' ⟨rfl, ⟨nd, rfl⟩⟩; refine ⟨_, rfl, ?_⟩))
      go_ret2
      exact ⟨by first | rfl | (simp; done) | (simp [*]; done), by repeat (first | exact Drawn0.refl _ | apply Drawn0.step)⟩

/-! ### cell_Make: function 28 -/
def cell_Make.f (a0 : Int) (a1 : Int) : Option (Int × Bool) := if a0 < 0 then (some (0, false)) else (if a0 > 6 then (some (0, false)) else (if a1 ≥ 2305843009213693952 then (some (0, false)) else (some (Go.bits .or .u64 (IntKind.u64.wrap (a1 * 8)) (IntKind.u64.wrap (a0)), true))))
set_option maxHeartbeats 8000000 in
set_option maxRecDepth 100000 in
theorem cell_Make.calls (a0 : Int) (a1 : Int) (r1 : Int) (r2 : Bool) (w : World) (h : cell_Make.f a0 a1 = some (r1, r2)) :
    Calls Try.prog 28 #[.int .i64 a0, .int .u64 a1] w fun e w' => e = .returned (.tuple #[.int .u64 r1, .bool r2]) ∧ Drawn0 w w' := by
  have H : (if a0 < 0 then (some (0, false)) else (if a0 > 6 then (some (0, false)) else (if a1 ≥ 2305843009213693952 then (some (0, false)) else (some (Go.bits .or .u64 (IntKind.u64.wrap (a1 * 8)) (IntKind.u64.wrap (a0)), true))))) = some (r1, r2) := h
  clear h
  by_cases c3 : a0 < 0
  · rw [if_pos c3] at H
    have c3b0 : decide (a0 < 0) = true := decide_eq_true c3
    clear c3
    simp only [Option.some.injEq, Prod.mk.injEq] at H
    obtain ⟨rfl, rfl⟩ := H
    go_enter Try.func28, Try.ntmps28
    go_wp2
    go_ret2
    exact ⟨by first | rfl | (simp; done) | (simp [*]; done), by repeat (first | exact Drawn0.refl _ | apply Drawn0.step)⟩
  · rw [if_neg c3] at H
    have c3b0 : decide (a0 < 0) = false := decide_eq_false c3
    clear c3
    by_cases c4 : a0 > 6
    · rw [if_pos c4] at H
      have c4b0 : decide (6 < a0) = true := decide_eq_true c4
      clear c4
      simp only [Option.some.injEq, Prod.mk.injEq] at H
      obtain ⟨rfl, rfl⟩ := H
      go_enter Try.func28, Try.ntmps28
      go_wp2
      go_ret2
      exact ⟨by first | rfl | (simp; done) | (simp [*]; done), by repeat (first | exact Drawn0.refl _ | apply Drawn0.step)⟩
    · rw [if_neg c4] at H
      have c4b0 : decide (6 < a0) = false := decide_eq_false c4
      clear c4
      by_cases c5 : a1 ≥ 2305843009213693952
      · rw [if_pos c5] at H
        have c5b0 : decide (2305843009213693952 ≤ a1) = true := decide_eq_true c5
        clear c5
        simp only [Option.some.injEq, Prod.mk.injEq] at H
        obtain ⟨rfl, rfl⟩ := H
        go_enter Try.func28, Try.ntmps28
        go_wp2
        go_ret2
        exact ⟨by first | rfl | (simp; done) | (simp [*]; done), by repeat (first | exact Drawn0.refl _ | apply Drawn0.step)⟩
      · rw [if_neg c5] at H
        have c5b0 : decide (2305843009213693952 ≤ a1) = false := decide_eq_false c5
        clear c5
        simp only [Option.some.injEq, Prod.mk.injEq] at H
        obtain ⟨rfl, rfl⟩ := H
        go_enter Try.func28, Try.ntmps28
        go_wp2
        go_ret2
        exact ⟨by first | rfl | (simp; done) | (simp [*]; done), by repeat (first | exact Drawn0.refl _ | apply Drawn0.step)⟩

/-! ### cell_Functor: function 40 -/
def cell_Functor.f (a0 : Int) (a1 : Int) : Option (Int × Bool) := if a0 < 0 then (some (0, false)) else (if a0 ≥ 4096 then (some (0, false)) else (if a1 < 1 then (some (0, false)) else (if a1 > 20 then (some (0, false)) else ((cell_Make.f 6 (IntKind.u64.wrap (wrap64 ((wrap64 (a0 * 256)) + a1)))).bind fun bt107 => (some (bt107.1, bt107.2))))))
set_option maxHeartbeats 8000000 in
set_option maxRecDepth 100000 in
theorem cell_Functor.calls (a0 : Int) (a1 : Int) (r1 : Int) (r2 : Bool) (w : World) (h : cell_Functor.f a0 a1 = some (r1, r2)) :
    Calls Try.prog 40 #[.int .i64 a0, .int .i64 a1] w fun e w' => e = .returned (.tuple #[.int .u64 r1, .bool r2]) ∧ Drawn0 w w' := by
  have H : (if a0 < 0 then (some (0, false)) else (if a0 ≥ 4096 then (some (0, false)) else (if a1 < 1 then (some (0, false)) else (if a1 > 20 then (some (0, false)) else ((cell_Make.f 6 (IntKind.u64.wrap (wrap64 ((wrap64 (a0 * 256)) + a1)))).bind fun bt107 => (some (bt107.1, bt107.2))))))) = some (r1, r2) := h
  clear h
  by_cases c3 : a0 < 0
  · rw [if_pos c3] at H
    have c3b0 : decide (a0 < 0) = true := decide_eq_true c3
    clear c3
    simp only [Option.some.injEq, Prod.mk.injEq] at H
    obtain ⟨rfl, rfl⟩ := H
    go_enter Try.func40, Try.ntmps40
    go_wp2
    go_ret2
    exact ⟨by first | rfl | (simp; done) | (simp [*]; done), by repeat (first | exact Drawn0.refl _ | apply Drawn0.step)⟩
  · rw [if_neg c3] at H
    have c3b0 : decide (a0 < 0) = false := decide_eq_false c3
    clear c3
    by_cases c4 : a0 ≥ 4096
    · rw [if_pos c4] at H
      have c4b0 : decide (4096 ≤ a0) = true := decide_eq_true c4
      clear c4
      simp only [Option.some.injEq, Prod.mk.injEq] at H
      obtain ⟨rfl, rfl⟩ := H
      go_enter Try.func40, Try.ntmps40
      go_wp2
      go_ret2
      exact ⟨by first | rfl | (simp; done) | (simp [*]; done), by repeat (first | exact Drawn0.refl _ | apply Drawn0.step)⟩
    · rw [if_neg c4] at H
      have c4b0 : decide (4096 ≤ a0) = false := decide_eq_false c4
      clear c4
      by_cases c5 : a1 < 1
      · rw [if_pos c5] at H
        have c5b0 : decide (a1 < 1) = true := decide_eq_true c5
        clear c5
        simp only [Option.some.injEq, Prod.mk.injEq] at H
        obtain ⟨rfl, rfl⟩ := H
        go_enter Try.func40, Try.ntmps40
        go_wp2
        go_ret2
        exact ⟨by first | rfl | (simp; done) | (simp [*]; done), by repeat (first | exact Drawn0.refl _ | apply Drawn0.step)⟩
      · rw [if_neg c5] at H
        have c5b0 : decide (a1 < 1) = false := decide_eq_false c5
        clear c5
        by_cases c6 : a1 > 20
        · rw [if_pos c6] at H
          have c6b0 : decide (20 < a1) = true := decide_eq_true c6
          clear c6
          simp only [Option.some.injEq, Prod.mk.injEq] at H
          obtain ⟨rfl, rfl⟩ := H
          go_enter Try.func40, Try.ntmps40
          go_wp2
          go_ret2
          exact ⟨by first | rfl | (simp; done) | (simp [*]; done), by repeat (first | exact Drawn0.refl _ | apply Drawn0.step)⟩
        · rw [if_neg c6] at H
          have c6b0 : decide (20 < a1) = false := decide_eq_false c6
          clear c6
          replace H := Option.bind_eq_some_iff.mp H
          obtain ⟨⟨t107, t108⟩, A70, H⟩ := H
          replace H : (some (t107, t108)) = some (r1, r2) := H
          have A7 := Aside0.mk A70
          clear A70
          simp only [Option.some.injEq, Prod.mk.injEq] at H
          obtain ⟨rfl, rfl⟩ := H
          go_enter Try.func40, Try.ntmps40
          go_wp2_with (first | ((with_reducible refine gate_callee (f := 28) rfl ?_); refine goesL_ (some 25) rfl rfl Try.func28 (by kernel_rfl) rfl #[.int .i64 6, .int .u64 (IntKind.u64.wrap (wrap64 ((wrap64 (a0 * 256)) + a1)))] rfl (by (try simp only [List.map_toArray, List.map_cons, List.map_nil]); first | done | rfl | (simp only [List.length_drop, List.length_take]; rfl)) ?_; (with_reducible refine (cell_Make.calls 6 (IntKind.u64.wrap (wrap64 ((wrap64 (a0 * 256)) + a1))) t107 t108 _ A7.out).mono ?_); rintro e w' ⟨rfl, ⟨nd, rfl⟩⟩; refine ⟨_, rfl, ?_⟩))
          go_ret2
          exact ⟨by first | rfl | (simp; done) | (simp [*]; done), by repeat (first | exact Drawn0.refl _ | apply Drawn0.step)⟩

/-! ### elenchusref4_Functor: function 41 -/
def elenchusref4_Functor.f (a0 : Int) (a1 : Int) : Option (Int) := (elenchusref4_Make.f 6 (Go.bits .or .u64 (IntKind.u64.wrap ((IntKind.u64.wrap (a0)) * 256)) (IntKind.u64.wrap (a1)))).bind fun t109 => (some t109)
set_option maxHeartbeats 8000000 in
set_option maxRecDepth 100000 in
theorem elenchusref4_Functor.calls (a0 : Int) (a1 : Int) (r : Int) (w : World) (h : elenchusref4_Functor.f a0 a1 = some r) :
    Calls Try.prog 41 #[.int .i64 a0, .int .i64 a1] w fun e w' => e = .returned (.int .u64 r) ∧ Drawn0 w w' := by
  have H : ((elenchusref4_Make.f 6 (Go.bits .or .u64 (IntKind.u64.wrap ((IntKind.u64.wrap (a0)) * 256)) (IntKind.u64.wrap (a1)))).bind fun t109 => (some t109)) = some r := h
  clear h
  replace H := Option.bind_eq_some_iff.mp H
  obtain ⟨t109, A30, H⟩ := H
  replace H : (some t109) = some r := H
  have A3 := Aside0.mk A30
  clear A30
  obtain rfl := Option.some.inj H
  go_enter Try.func41, Try.ntmps41
  go_wp2_with (first | ((with_reducible refine gate_callee (f := 29) rfl ?_); refine goesL_ (some 11) rfl rfl Try.func29 (by kernel_rfl) rfl #[.int .i64 6, .int .u64 (Go.bits .or .u64 (IntKind.u64.wrap ((IntKind.u64.wrap (a0)) * 256)) (IntKind.u64.wrap (a1)))] rfl (by (try simp only [List.map_toArray, List.map_cons, List.map_nil]); first | done | rfl | (simp only [List.length_drop, List.length_take]; rfl)) ?_; (with_reducible refine (elenchusref4_Make.calls 6 (Go.bits .or .u64 (IntKind.u64.wrap ((IntKind.u64.wrap (a0)) * 256)) (IntKind.u64.wrap (a1))) t109 _ A3.out).mono ?_); rintro e w' ⟨rfl, ⟨nd, rfl⟩⟩; refine ⟨_, rfl, ?_⟩))
  go_ret
  exact ⟨by first | rfl | (simp; done) | (simp [*]; done), by repeat (first | exact Drawn0.refl _ | apply Drawn0.step)⟩

/-! ### cell_Parts: function 42 -/
def cell_Parts.f (a0 : Int) : Option (Int × Int) := (cell_Tag.f a0).bind fun t110 => (if t110 = 6 then ((cell_Value.f a0).bind fun t111 => (some (wrap64 (IntKind.u64.wrap (Int.tdiv t111 256)), wrap64 (Int.tmod t111 256)))) else (some (0, 0)))
set_option maxHeartbeats 8000000 in
set_option maxRecDepth 100000 in
theorem cell_Parts.calls (a0 : Int) (r1 : Int) (r2 : Int) (w : World) (h : cell_Parts.f a0 = some (r1, r2)) :
    Calls Try.prog 42 #[.int .u64 a0] w fun e w' => e = .returned (.tuple #[.int .i64 r1, .int .i64 r2]) ∧ Drawn0 w w' := by
  have H : ((cell_Tag.f a0).bind fun t110 => (if t110 = 6 then ((cell_Value.f a0).bind fun t111 => (some (wrap64 (IntKind.u64.wrap (Int.tdiv t111 256)), wrap64 (Int.tmod t111 256)))) else (some (0, 0)))) = some (r1, r2) := h
  clear h
  replace H := Option.bind_eq_some_iff.mp H
  obtain ⟨t110, A20, H⟩ := H
  replace H : (if t110 = 6 then ((cell_Value.f a0).bind fun t111 => (some (wrap64 (IntKind.u64.wrap (Int.tdiv t111 256)), wrap64 (Int.tmod t111 256)))) else (some (0, 0))) = some (r1, r2) := H
  have A2 := Aside0.mk A20
  clear A20
  by_cases c3 : t110 = 6
  · rw [if_pos c3] at H
    have c3b0 : (t110 == 6) = true := beq_iff_eq.mpr c3
    have c3b1 : (t110 != 6) = false := bne_eq_false_iff_eq.mpr c3
    clear c3
    replace H := Option.bind_eq_some_iff.mp H
    obtain ⟨t111, A40, H⟩ := H
    replace H : (some (wrap64 (IntKind.u64.wrap (Int.tdiv t111 256)), wrap64 (Int.tmod t111 256))) = some (r1, r2) := H
    have A4 := Aside0.mk A40
    clear A40
    simp only [Option.some.injEq, Prod.mk.injEq] at H
    obtain ⟨rfl, rfl⟩ := H
    go_enter Try.func42, Try.ntmps42
    go_wp2_with (first | ((with_reducible refine gate_callee (f := 30) rfl ?_); refine goesL_ (some 6) rfl rfl Try.func30 (by kernel_rfl) rfl #[.int .u64 a0] rfl (by (try simp only [List.map_toArray, List.map_cons, List.map_nil]); first | done | rfl | (simp only [List.length_drop, List.length_take]; rfl)) ?_; (with_reducible refine (cell_Tag.calls a0 t110 _ A2.out).mono ?_); rintro e w' ⟨rfl, ⟨nd, rfl⟩⟩; refine ⟨_, rfl, ?_⟩) | ((with_reducible refine gate_callee (f := 32) rfl ?_); refine goesL_ (some 9) rfl rfl Try.func32 (by kernel_rfl) rfl #[.int .u64 a0] rfl (by (try simp only [List.map_toArray, List.map_cons, List.map_nil]); first | done | rfl | (simp only [List.length_drop, List.length_take]; rfl)) ?_; (with_reducible refine (cell_Value.calls a0 t111 _ A4.out).mono ?_); rintro e w' ⟨rfl, ⟨nd, rfl⟩⟩; refine ⟨_, rfl, ?_⟩))
    go_ret2
    exact ⟨by first | rfl | (simp; done) | (simp [*]; done), by repeat (first | exact Drawn0.refl _ | apply Drawn0.step)⟩
  · rw [if_neg c3] at H
    have c3b0 : (t110 == 6) = false := beq_eq_false_iff_ne.mpr c3
    have c3b1 : (t110 != 6) = true := bne_iff_ne.mpr c3
    simp only [Option.some.injEq, Prod.mk.injEq] at H
    obtain ⟨rfl, rfl⟩ := H
    go_enter Try.func42, Try.ntmps42
    go_wp2_with (first | ((with_reducible refine gate_callee (f := 30) rfl ?_); refine goesL_ (some 6) rfl rfl Try.func30 (by kernel_rfl) rfl #[.int .u64 a0] rfl (by (try simp only [List.map_toArray, List.map_cons, List.map_nil]); first | done | rfl | (simp only [List.length_drop, List.length_take]; rfl)) ?_; (with_reducible refine (cell_Tag.calls a0 t110 _ A2.out).mono ?_); rintro e w' ⟨rfl, ⟨nd, rfl⟩⟩; refine ⟨_, rfl, ?_⟩))
    go_ret2
    exact ⟨by first | rfl | (simp; done) | (simp [*]; done), by repeat (first | exact Drawn0.refl _ | apply Drawn0.step)⟩

/-! ### elenchuslaw4_CellNumbers: function 7 -/
mutual
def elenchuslaw4_CellNumbers.j0 : Nat → Int → Int → Int → Bool → Int → Bool → Int → Bool → Bool → Option (Bool)
  | 0, _, _, _, _, _, _, _, _, _ => none
  | k + 1, x1, x2, x7, x8, x9, x10, x11, x12, x13 => if x7 = x9 then (if (x8 != x10) = true then (elenchuslaw4_CellNumbers.j1 k x7 true) else (if (x12 != x13) = true then (elenchuslaw4_CellNumbers.j1 k x7 true) else (if x12 = true then ((elenchusref4_Functor.f x1 x2).bind fun t118 => (elenchuslaw4_CellNumbers.j1 k x7 (x11 != t118))) else (elenchuslaw4_CellNumbers.j1 k x7 false)))) else (elenchuslaw4_CellNumbers.j1 k x7 true)
def elenchuslaw4_CellNumbers.j1 : Nat → Int → Bool → Option (Bool)
  | 0, _, _ => none
  | k + 1, x7, x68 => if x68 = true then (some false) else ((cell_Parts.f x7).bind fun bt119 => (if bt119.1 = 0 then (if bt119.2 = 0 then ((elenchuslaw4_awake.f).bind fun t121 => (some t121)) else (some false)) else (some false)))
end
def elenchuslaw4_CellNumbers.f (k : Nat) (a0 : Int) (a1 : Int) (a2 : Int) : Option (Bool) := (cell_Small.f a0).bind fun bt112 => ((elenchusref4_Small.f a0).bind fun bt114 => ((cell_Functor.f a1 a2).bind fun bt116 => (if a1 ≥ 0 then (if a1 < 4096 then (if a2 ≥ 1 then (elenchuslaw4_CellNumbers.j0 k a1 a2 bt112.1 bt112.2 bt114.1 bt114.2 bt116.1 bt116.2 (decide (a2 ≤ 20))) else (elenchuslaw4_CellNumbers.j0 k a1 a2 bt112.1 bt112.2 bt114.1 bt114.2 bt116.1 bt116.2 false)) else (elenchuslaw4_CellNumbers.j0 k a1 a2 bt112.1 bt112.2 bt114.1 bt114.2 bt116.1 bt116.2 false)) else (elenchuslaw4_CellNumbers.j0 k a1 a2 bt112.1 bt112.2 bt114.1 bt114.2 bt116.1 bt116.2 false))))
theorem elenchuslaw4_CellNumbers.mono_l : ∀ k, (∀ y0 y1 y2 y3 y4 y5 y6 y7 y8, LeO (elenchuslaw4_CellNumbers.j0 k y0 y1 y2 y3 y4 y5 y6 y7 y8) (elenchuslaw4_CellNumbers.j0 (k + 1) y0 y1 y2 y3 y4 y5 y6 y7 y8)) ∧ (∀ y0 y1, LeO (elenchuslaw4_CellNumbers.j1 k y0 y1) (elenchuslaw4_CellNumbers.j1 (k + 1) y0 y1))
  | 0 => ⟨fun _ _ _ _ _ _ _ _ _ r h => by simp [elenchuslaw4_CellNumbers.j0] at h, fun _ _ r h => by simp [elenchuslaw4_CellNumbers.j1] at h⟩
  | k + 1 => by
    obtain ⟨ih0, ih1⟩ := elenchuslaw4_CellNumbers.mono_l k
    refine ⟨?_, ?_⟩
    · intro y0 y1 y2 y3 y4 y5 y6 y7 y8
      unfold elenchuslaw4_CellNumbers.j0
      repeat' first
      | (with_reducible exact ih0 _ _ _ _ _ _ _ _ _)
      | (with_reducible exact ih1 _ _)
      | (with_reducible exact LeO.refl _)
      | (with_reducible exact LeO.none _)
      | (with_reducible refine LeO.ite ?_ ?_)
      | (with_reducible refine LeO.bind ?_ (fun _ => ?_))
      | exact ih0 _ _ _ _ _ _ _ _ _
      | exact ih1 _ _
      | exact LeO.none _
      | refine LeO.ite ?_ ?_
      | refine LeO.bind ?_ (fun _ => ?_)
    · intro y0 y1
      unfold elenchuslaw4_CellNumbers.j1
      repeat' first
      | (with_reducible exact ih0 _ _ _ _ _ _ _ _ _)
      | (with_reducible exact ih1 _ _)
      | (with_reducible exact LeO.refl _)
      | (with_reducible exact LeO.none _)
      | (with_reducible refine LeO.ite ?_ ?_)
      | (with_reducible refine LeO.bind ?_ (fun _ => ?_))
      | exact ih0 _ _ _ _ _ _ _ _ _
      | exact ih1 _ _
      | exact LeO.none _
      | refine LeO.ite ?_ ?_
      | refine LeO.bind ?_ (fun _ => ?_)
theorem elenchuslaw4_CellNumbers.mono : ∀ a0 a1 a2 k, LeO (elenchuslaw4_CellNumbers.f k a0 a1 a2) (elenchuslaw4_CellNumbers.f (k + 1) a0 a1 a2) := by
  intro a0 a1 a2 k
  obtain ⟨ih0, ih1⟩ := elenchuslaw4_CellNumbers.mono_l k
  unfold elenchuslaw4_CellNumbers.f
  repeat' first
      | (with_reducible exact ih0 _ _ _ _ _ _ _ _ _)
      | (with_reducible exact ih1 _ _)
      | (with_reducible exact LeO.refl _)
      | (with_reducible exact LeO.none _)
      | (with_reducible refine LeO.ite ?_ ?_)
      | (with_reducible refine LeO.bind ?_ (fun _ => ?_))
      | exact ih0 _ _ _ _ _ _ _ _ _
      | exact ih1 _ _
      | exact LeO.none _
      | refine LeO.ite ?_ ?_
      | refine LeO.bind ?_ (fun _ => ?_)
set_option maxHeartbeats 8000000 in
set_option maxRecDepth 100000 in
theorem elenchuslaw4_CellNumbers.calls (k : Nat) (a0 : Int) (a1 : Int) (a2 : Int) (r : Bool) (w : World) (h : elenchuslaw4_CellNumbers.f k a0 a1 a2 = some r) :
    Calls Try.prog 7 #[.int .i64 a0, .int .i64 a1, .int .i64 a2] w fun e w' => e = .returned (.bool r) ∧ Drawn0 w w' := by
  have H : ((cell_Small.f a0).bind fun bt112 => ((elenchusref4_Small.f a0).bind fun bt114 => ((cell_Functor.f a1 a2).bind fun bt116 => (if a1 ≥ 0 then (if a1 < 4096 then (if a2 ≥ 1 then (elenchuslaw4_CellNumbers.j0 k a1 a2 bt112.1 bt112.2 bt114.1 bt114.2 bt116.1 bt116.2 (decide (a2 ≤ 20))) else (elenchuslaw4_CellNumbers.j0 k a1 a2 bt112.1 bt112.2 bt114.1 bt114.2 bt116.1 bt116.2 false)) else (elenchuslaw4_CellNumbers.j0 k a1 a2 bt112.1 bt112.2 bt114.1 bt114.2 bt116.1 bt116.2 false)) else (elenchuslaw4_CellNumbers.j0 k a1 a2 bt112.1 bt112.2 bt114.1 bt114.2 bt116.1 bt116.2 false))))) = some r := h
  clear h
  replace H := Option.bind_eq_some_iff.mp H
  obtain ⟨⟨t112, t113⟩, A40, H⟩ := H
  replace H : ((elenchusref4_Small.f a0).bind fun bt114 => ((cell_Functor.f a1 a2).bind fun bt116 => (if a1 ≥ 0 then (if a1 < 4096 then (if a2 ≥ 1 then (elenchuslaw4_CellNumbers.j0 k a1 a2 t112 t113 bt114.1 bt114.2 bt116.1 bt116.2 (decide (a2 ≤ 20))) else (elenchuslaw4_CellNumbers.j0 k a1 a2 t112 t113 bt114.1 bt114.2 bt116.1 bt116.2 false)) else (elenchuslaw4_CellNumbers.j0 k a1 a2 t112 t113 bt114.1 bt114.2 bt116.1 bt116.2 false)) else (elenchuslaw4_CellNumbers.j0 k a1 a2 t112 t113 bt114.1 bt114.2 bt116.1 bt116.2 false)))) = some r := H
  have A4 := Aside0.mk A40
  clear A40
  replace H := Option.bind_eq_some_iff.mp H
  obtain ⟨⟨t114, t115⟩, A50, H⟩ := H
  replace H : ((cell_Functor.f a1 a2).bind fun bt116 => (if a1 ≥ 0 then (if a1 < 4096 then (if a2 ≥ 1 then (elenchuslaw4_CellNumbers.j0 k a1 a2 t112 t113 t114 t115 bt116.1 bt116.2 (decide (a2 ≤ 20))) else (elenchuslaw4_CellNumbers.j0 k a1 a2 t112 t113 t114 t115 bt116.1 bt116.2 false)) else (elenchuslaw4_CellNumbers.j0 k a1 a2 t112 t113 t114 t115 bt116.1 bt116.2 false)) else (elenchuslaw4_CellNumbers.j0 k a1 a2 t112 t113 t114 t115 bt116.1 bt116.2 false))) = some r := H
  have A5 := Aside0.mk A50
  clear A50
  replace H := Option.bind_eq_some_iff.mp H
  obtain ⟨⟨t116, t117⟩, A60, H⟩ := H
  replace H : (if a1 ≥ 0 then (if a1 < 4096 then (if a2 ≥ 1 then (elenchuslaw4_CellNumbers.j0 k a1 a2 t112 t113 t114 t115 t116 t117 (decide (a2 ≤ 20))) else (elenchuslaw4_CellNumbers.j0 k a1 a2 t112 t113 t114 t115 t116 t117 false)) else (elenchuslaw4_CellNumbers.j0 k a1 a2 t112 t113 t114 t115 t116 t117 false)) else (elenchuslaw4_CellNumbers.j0 k a1 a2 t112 t113 t114 t115 t116 t117 false)) = some r := H
  have A6 := Aside0.mk A60
  clear A60
  have HC7 := Aside0.mk H
  clear H
  go_enter Try.func7, Try.ntmps7
  go_upto_region 4 with (first | ((with_reducible refine gate_callee (f := 25) rfl ?_); refine goesL_ (some 18) rfl rfl Try.func25 (by kernel_rfl) rfl #[.int .i64 a0] rfl (by (try simp only [List.map_toArray, List.map_cons, List.map_nil]); first | done | rfl | (simp only [List.length_drop, List.length_take]; rfl)) ?_; (with_reducible refine (cell_Small.calls a0 t112 t113 _ A4.out).mono ?_); rintro e w' ⟨rfl, ⟨nd, rfl⟩⟩; refine ⟨_, rfl, ?_⟩) | ((with_reducible refine gate_callee (f := 39) rfl ?_); refine goesL_ (some 23) rfl rfl Try.func39 (by kernel_rfl) rfl #[.int .i64 a0] rfl (by (try simp only [List.map_toArray, List.map_cons, List.map_nil]); first | done | rfl | (simp only [List.length_drop, List.length_take]; rfl)) ?_; (with_reducible refine (elenchusref4_Small.calls a0 t114 t115 _ A5.out).mono ?_); rintro e w' ⟨rfl, ⟨nd, rfl⟩⟩; refine ⟨_, rfl, ?_⟩) | ((with_reducible refine gate_callee (f := 40) rfl ?_); refine goesL_ (some 29) rfl rfl Try.func40 (by kernel_rfl) rfl #[.int .i64 a1, .int .i64 a2] rfl (by (try simp only [List.map_toArray, List.map_cons, List.map_nil]); first | done | rfl | (simp only [List.length_drop, List.length_take]; rfl)) ?_; (with_reducible refine (cell_Functor.calls a1 a2 t116 t117 _ A6.out).mono ?_); rintro e w' ⟨rfl, ⟨nd, rfl⟩⟩; refine ⟨_, rfl, ?_⟩))
  (try simp only [Act.put, List.setIfInBounds_toArray, List.set_cons_zero, List.set_cons_succ])
  go_cut [13] (fun v13 wc => ∃ (kq : Nat) (x13_6 : Bool), v13 = .bool x13_6 ∧ Aside0 (elenchuslaw4_CellNumbers.j0 kq a1 a2 t112 t113 t114 t115 t116 t117 x13_6 = some r) ∧ Aside0 (kq ≤ k) ∧ Drawn0 w wc)
  case first =>
    have H := HC7.out
    clear HC7
    by_cases c8 : a1 ≥ 0
    · rw [if_pos c8] at H
      have c8b0 : decide (0 ≤ a1) = true := decide_eq_true c8
      clear c8
      (first | rw [c8b0] | (simp only [i64_w, i32_w]; rw [c8b0]) | skip)
      by_cases c9 : a1 < 4096
      · rw [if_pos c9] at H
        have c9b0 : decide (a1 < 4096) = true := decide_eq_true c9
        clear c9
        by_cases c10 : a2 ≥ 1
        · rw [if_pos c10] at H
          have c10b0 : decide (1 ≤ a2) = true := decide_eq_true c10
          clear c10
          have H' := Aside0.mk H
          clear H
          go_wp2
          go_meet
          case rel => exact ⟨_, (decide (a2 ≤ 20)), (by first | rfl | (simp; done) | (simp [*]; done)), H', ⟨by first | omega | exact Nat.le_refl _⟩, by repeat (first | exact Drawn0.refl _ | apply Drawn0.step)⟩
        · rw [if_neg c10] at H
          have c10b0 : decide (1 ≤ a2) = false := decide_eq_false c10
          clear c10
          have H' := Aside0.mk H
          clear H
          go_wp2
          go_meet
          case rel => exact ⟨_, (false), (by first | rfl | (simp; done) | (simp [*]; done)), H', ⟨by first | omega | exact Nat.le_refl _⟩, by repeat (first | exact Drawn0.refl _ | apply Drawn0.step)⟩
      · rw [if_neg c9] at H
        have c9b0 : decide (a1 < 4096) = false := decide_eq_false c9
        clear c9
        have H' := Aside0.mk H
        clear H
        go_wp2
        go_meet
        case rel => exact ⟨_, (false), (by first | rfl | (simp; done) | (simp [*]; done)), H', ⟨by first | omega | exact Nat.le_refl _⟩, by repeat (first | exact Drawn0.refl _ | apply Drawn0.step)⟩
    · rw [if_neg c8] at H
      have c8b0 : decide (0 ≤ a1) = false := decide_eq_false c8
      clear c8
      (first | rw [c8b0] | (simp only [i64_w, i32_w]; rw [c8b0]) | skip)
      have H' := Aside0.mk H
      clear H
      go_wp2
      go_meet
      case rel => exact ⟨_, (false), (by first | rfl | (simp; done) | (simp [*]; done)), H', ⟨by first | omega | exact Nat.le_refl _⟩, by repeat (first | exact Drawn0.refl _ | apply Drawn0.step)⟩
  case rest =>
    clear HC7
    try clear c1
    try clear c2
    try clear p2
    try clear c3
    try clear c4
    try clear c7
    try clear c8
    try clear c8b0
    try clear c9
    try clear c9b0
    try clear c10
    try clear c10b0
    obtain ⟨kq, x13_6, rfl, HA, HJ6, ⟨mc6, rfl⟩⟩ := hcut
    cases kq with
    | zero => exact absurd HA.out (by simp [elenchuslaw4_CellNumbers.j0])
    | succ kj6 =>
      have H := HA.out
      clear HA
      simp only [elenchuslaw4_CellNumbers.j0] at H
      have HC11 := Aside0.mk H
      clear H
      go_upto_region 5 with (fail)
      go_cut [68] (fun v68 wc => ∃ (kq : Nat) (x68_10 : Bool), v68 = .bool x68_10 ∧ Aside0 (elenchuslaw4_CellNumbers.j1 kq t112 x68_10 = some r) ∧ Aside0 (kq ≤ kj6) ∧ Drawn0 w wc)
      case first =>
        have H := HC11.out
        clear HC11
        by_cases c12 : t112 = t114
        · rw [if_pos c12] at H
          have c12b0 : (t112 == t114) = true := beq_iff_eq.mpr c12
          have c12b1 : (t112 != t114) = false := bne_eq_false_iff_eq.mpr c12
          clear c12
          (first | rw [c12b0] | (simp only [i64_w, i32_w]; rw [c12b0]) | skip)
          by_cases c13 : (t113 != t115) = true
          · rw [if_pos c13] at H
            have c13b0 : (t113 != t115) = true := c13
            (try (have c13b1 : decide (t113 = t115) = false := by simpa using c13))
            (try (have c13b2 : (t113 == t115) = false := by simpa using c13))
            (try (have c13b3 : ¬ (t113 = t115) := by simpa using c13))
            clear c13
            have H' := Aside0.mk H
            clear H
            go_wp2
            go_meet
            case rel => exact ⟨_, (true), (by first | rfl | (simp; done) | (simp [*]; done)), H', ⟨by have := HJ6.out; first | omega | exact Nat.le_refl _⟩, by repeat (first | exact Drawn0.refl _ | apply Drawn0.step)⟩
          · rw [if_neg c13] at H
            have c13b0 : (t113 != t115) = false := by simpa using c13
            (try (have c13b1 : decide (t113 = t115) = true := by simpa using c13))
            (try (have c13b2 : (t113 == t115) = true := by simpa using c13))
            clear c13
            by_cases c14 : (t117 != x13_6) = true
            · rw [if_pos c14] at H
              have c14b0 : (t117 != x13_6) = true := c14
              (try (have c14b1 : decide (t117 = x13_6) = false := by simpa using c14))
              (try (have c14b2 : (t117 == x13_6) = false := by simpa using c14))
              (try (have c14b3 : ¬ (t117 = x13_6) := by simpa using c14))
              clear c14
              have H' := Aside0.mk H
              clear H
              go_wp2
              go_meet
              case rel => exact ⟨_, (true), (by first | rfl | (simp; done) | (simp [*]; done)), H', ⟨by have := HJ6.out; first | omega | exact Nat.le_refl _⟩, by repeat (first | exact Drawn0.refl _ | apply Drawn0.step)⟩
            · rw [if_neg c14] at H
              have c14b0 : (t117 != x13_6) = false := by simpa using c14
              (try (have c14b1 : decide (t117 = x13_6) = true := by simpa using c14))
              (try (have c14b2 : (t117 == x13_6) = true := by simpa using c14))
              clear c14
              by_cases c15 : t117 = true
              · subst c15
                have H1 : ((elenchusref4_Functor.f a1 a2).bind fun t118 => (elenchuslaw4_CellNumbers.j1 kj6 t112 (t116 != t118))) = some r := by rw [if_pos rfl] at H; exact H
                clear H
                have H := H1
                clear H1
                replace H := Option.bind_eq_some_iff.mp H
                obtain ⟨t118, A160, H⟩ := H
                replace H : (elenchuslaw4_CellNumbers.j1 kj6 t112 (t116 != t118)) = some r := H
                have A16 := Aside0.mk A160
                clear A160
                have H' := Aside0.mk H
                clear H
                go_wp2_with (first | (go_at_call 41; (with_reducible refine (elenchusref4_Functor.calls a1 a2 t118 _ A16.out).mono ?_); rintro e w' ⟨rfl, ⟨nd, rfl⟩⟩))
                go_meet
                case rel => exact ⟨_, ((t116 != t118)), (by first | rfl | (simp; done) | (simp [*]; done)), H', ⟨by have := HJ6.out; first | omega | exact Nat.le_refl _⟩, by repeat (first | exact Drawn0.refl _ | apply Drawn0.step)⟩
              · replace c15 := Bool.eq_false_iff.mpr c15
                subst c15
                have H1 : (elenchuslaw4_CellNumbers.j1 kj6 t112 false) = some r := by rw [if_neg (show ¬ (false = true) by decide)] at H; exact H
                clear H
                have H := H1
                clear H1
                have H' := Aside0.mk H
                clear H
                go_wp2
                go_meet
                case rel => exact ⟨_, (false), (by first | rfl | (simp; done) | (simp [*]; done)), H', ⟨by have := HJ6.out; first | omega | exact Nat.le_refl _⟩, by repeat (first | exact Drawn0.refl _ | apply Drawn0.step)⟩
        · rw [if_neg c12] at H
          have c12b0 : (t112 == t114) = false := beq_eq_false_iff_ne.mpr c12
          have c12b1 : (t112 != t114) = true := bne_iff_ne.mpr c12
          (first | rw [c12b0] | (simp only [i64_w, i32_w]; rw [c12b0]) | skip)
          have H' := Aside0.mk H
          clear H
          go_wp2
          go_meet
          case rel => exact ⟨_, (true), (by first | rfl | (simp; done) | (simp [*]; done)), H', ⟨by have := HJ6.out; first | omega | exact Nat.le_refl _⟩, by repeat (first | exact Drawn0.refl _ | apply Drawn0.step)⟩
      case rest =>
        clear HC11
        try clear c1
        try clear c2
        try clear p2
        try clear c3
        try clear c4
        try clear c6
        try clear c7
        try clear c8
        try clear c8b0
        try clear c9
        try clear c9b0
        try clear c10
        try clear c10b0
        try clear c12
        try clear c12b0
        try clear c12b1
        try clear c13
        try clear c13b0
        try clear c13b1
        try clear c13b2
        try clear c14
        try clear c14b0
        try clear c14b1
        try clear c14b2
        try clear c15
        try clear p2
        obtain ⟨kq, x68_10, rfl, HA, HJ10, ⟨mc10, rfl⟩⟩ := hcut
        cases kq with
        | zero => exact absurd HA.out (by simp [elenchuslaw4_CellNumbers.j1])
        | succ kj10 =>
          have H := HA.out
          clear HA
          simp only [elenchuslaw4_CellNumbers.j1] at H
          by_cases c17 : x68_10 = true
          · subst c17
            have H1 : (some false) = some r := by rw [if_pos rfl] at H; exact H
            clear H
            have H := H1
            clear H1
            obtain rfl := Option.some.inj H
            go_wp2
            go_ret
            exact ⟨by first | rfl | (simp; done) | (simp [*]; done), by repeat (first | exact Drawn0.refl _ | apply Drawn0.step)⟩
          · replace c17 := Bool.eq_false_iff.mpr c17
            subst c17
            have H1 : ((cell_Parts.f t112).bind fun bt119 => (if bt119.1 = 0 then (if bt119.2 = 0 then ((elenchuslaw4_awake.f).bind fun t121 => (some t121)) else (some false)) else (some false))) = some r := by rw [if_neg (show ¬ (false = true) by decide)] at H; exact H
            clear H
            have H := H1
            clear H1
            replace H := Option.bind_eq_some_iff.mp H
            obtain ⟨⟨t119, t120⟩, A180, H⟩ := H
            replace H : (if t119 = 0 then (if t120 = 0 then ((elenchuslaw4_awake.f).bind fun t121 => (some t121)) else (some false)) else (some false)) = some r := H
            have A18 := Aside0.mk A180
            clear A180
            by_cases c19 : t119 = 0
            · rw [if_pos c19] at H
              have c19b0 : (t119 == 0) = true := beq_iff_eq.mpr c19
              have c19b1 : (t119 != 0) = false := bne_eq_false_iff_eq.mpr c19
              clear c19
              by_cases c20 : t120 = 0
              · rw [if_pos c20] at H
                have c20b0 : (t120 == 0) = true := beq_iff_eq.mpr c20
                have c20b1 : (t120 != 0) = false := bne_eq_false_iff_eq.mpr c20
                clear c20
                replace H := Option.bind_eq_some_iff.mp H
                obtain ⟨t121, A210, H⟩ := H
                replace H : (some t121) = some r := H
                have A21 := Aside0.mk A210
                clear A210
                obtain rfl := Option.some.inj H
                go_wp2_with (first | ((with_reducible refine gate_callee (f := 42) rfl ?_); refine goesL_ (some 71) rfl rfl Try.func42 (by kernel_rfl) rfl #[.int .u64 t112] rfl (by (try simp only [List.map_toArray, List.map_cons, List.map_nil]); first | done | rfl | (simp only [List.length_drop, List.length_take]; rfl)) ?_; (with_reducible refine (cell_Parts.calls t112 t119 t120 _ A18.out).mono ?_); rintro e w' ⟨rfl, ⟨nd, rfl⟩⟩; refine ⟨_, rfl, ?_⟩) | (go_at_call 27; (with_reducible refine (elenchuslaw4_awake.calls  t121 _ A21.out).mono ?_); rintro e w' ⟨rfl, ⟨nd, rfl⟩⟩))
                go_ret
                exact ⟨by first | rfl | (simp; done) | (simp [*]; done), by repeat (first | exact Drawn0.refl _ | apply Drawn0.step)⟩
              · rw [if_neg c20] at H
                have c20b0 : (t120 == 0) = false := beq_eq_false_iff_ne.mpr c20
                have c20b1 : (t120 != 0) = true := bne_iff_ne.mpr c20
                obtain rfl := Option.some.inj H
                go_wp2_with (first | ((with_reducible refine gate_callee (f := 42) rfl ?_); refine goesL_ (some 71) rfl rfl Try.func42 (by kernel_rfl) rfl #[.int .u64 t112] rfl (by (try simp only [List.map_toArray, List.map_cons, List.map_nil]); first | done | rfl | (simp only [List.length_drop, List.length_take]; rfl)) ?_; (with_reducible refine (cell_Parts.calls t112 t119 t120 _ A18.out).mono ?_); rintro e w' ⟨rfl, ⟨nd, rfl⟩⟩; refine ⟨_, rfl, ?_⟩))
                go_ret
                exact ⟨by first | rfl | (simp; done) | (simp [*]; done), by repeat (first | exact Drawn0.refl _ | apply Drawn0.step)⟩
            · rw [if_neg c19] at H
              have c19b0 : (t119 == 0) = false := beq_eq_false_iff_ne.mpr c19
              have c19b1 : (t119 != 0) = true := bne_iff_ne.mpr c19
              obtain rfl := Option.some.inj H
              go_wp2_with (first | ((with_reducible refine gate_callee (f := 42) rfl ?_); refine goesL_ (some 71) rfl rfl Try.func42 (by kernel_rfl) rfl #[.int .u64 t112] rfl (by (try simp only [List.map_toArray, List.map_cons, List.map_nil]); first | done | rfl | (simp only [List.length_drop, List.length_take]; rfl)) ?_; (with_reducible refine (cell_Parts.calls t112 t119 t120 _ A18.out).mono ?_); rintro e w' ⟨rfl, ⟨nd, rfl⟩⟩; refine ⟨_, rfl, ?_⟩))
              go_ret
              exact ⟨by first | rfl | (simp; done) | (simp [*]; done), by repeat (first | exact Drawn0.refl _ | apply Drawn0.step)⟩

/-- THE ONE PURE STATEMENT of elenchuslaw4_CellNumbers: yours. -/
def elenchuslaw4_CellNumbers.Pure : Prop := ∀ (a0 : Int) (a1 : Int) (a2 : Int), (Lit.int .i64 a0).wf = true → (Lit.int .i64 a1).wf = true → (Lit.int .i64 a2).wf = true → ∃ k, elenchuslaw4_CellNumbers.f k a0 a1 a2 = some true
theorem elenchuslaw4_CellNumbers.walk (P : elenchuslaw4_CellNumbers.Pure) (a0 : Int) (a1 : Int) (a2 : Int) (w : World) (w0 : (Lit.int .i64 a0).wf = true) (w1 : (Lit.int .i64 a1).wf = true) (w2 : (Lit.int .i64 a2).wf = true) :
    Calls Try.prog 7 #[.int .i64 a0, .int .i64 a1, .int .i64 a2] w fun e w' => e = .returned (.bool true) ∧ Below w.heap.size w w' := by
  obtain ⟨k, h⟩ := P a0 a1 a2 w0 w1 w2
  refine (elenchuslaw4_CellNumbers.calls k a0 a1 a2 true w h).mono ?_
  rintro e w' ⟨rfl, hd⟩
  exact ⟨rfl, hd.below⟩

end Go.Proofs.Ytaahamgjhlnjnaa.PCellNumbers
