-- PRINTED BY print.sh 35421559b90ae4d0a3588c463048766b98c2df88dd9212a6774a882060cdf62d: not written by this session
import Derived.Test.YtaahamgjhlnjnaaPCellBackx0
namespace Go.Proofs.Ytaahamgjhlnjnaa.PCellBack
open Go.RowKit Go.Proofs.YtaahamgjhlnjnaaW.PrintWords Go.Proofs.YtaahamgjhlnjnaaW.PrintLast Go.Proofs.YtaahamgjhlnjnaaW.PrintMore
attribute [local go_sem] max2_int min2_int max_two min_two max_three min_three max_four min_four   -- for this text's walks alone
set_option linter.unusedVariables false
set_option linter.unusedSimpArgs false

/-! ### cell_Small: function 25 -/
def cell_Small.f (a0 : Int) : Option (Int × Bool) := if a0 < (-1152921504606846976) then (some (0, false)) else (if a0 > 1152921504606846975 then (some (0, false)) else (some (Go.bits .or .u64 (IntKind.u64.wrap ((IntKind.u64.wrap (a0)) * 8)) 3, true)))
set_option maxHeartbeats 8000000 in
set_option maxRecDepth 100000 in
theorem cell_Small.calls (a0 : Int) (r1 : Int) (r2 : Bool) (w : World) (h : cell_Small.f a0 = some (r1, r2)) :
    Calls Try.prog 25 #[.int .i64 a0] w fun e w' => e = .returned (.tuple #[.int .u64 r1, .bool r2]) ∧ Drawn0 w w' := by
  have H : (if a0 < (-1152921504606846976) then (some (0, false)) else (if a0 > 1152921504606846975 then (some (0, false)) else (some (Go.bits .or .u64 (IntKind.u64.wrap ((IntKind.u64.wrap (a0)) * 8)) 3, true)))) = some (r1, r2) := h
  clear h
  by_cases c2 : a0 < (-1152921504606846976)
  · rw [if_pos c2] at H
    have c2b0 : decide (a0 < (-1152921504606846976)) = true := decide_eq_true c2
    clear c2
    simp only [Option.some.injEq, Prod.mk.injEq] at H
    obtain ⟨rfl, rfl⟩ := H
    go_enter Try.func25, Try.ntmps25
    go_wp2
    go_ret2
    exact ⟨by first | rfl | (simp; done) | (simp [*]; done), by repeat (first | exact Drawn0.refl _ | apply Drawn0.step)⟩
  · rw [if_neg c2] at H
    have c2b0 : decide (a0 < (-1152921504606846976)) = false := decide_eq_false c2
    clear c2
    by_cases c3 : a0 > 1152921504606846975
    · rw [if_pos c3] at H
      have c3b0 : decide (1152921504606846975 < a0) = true := decide_eq_true c3
      clear c3
      simp only [Option.some.injEq, Prod.mk.injEq] at H
      obtain ⟨rfl, rfl⟩ := H
      go_enter Try.func25, Try.ntmps25
      go_wp2
      go_ret2
      exact ⟨by first | rfl | (simp; done) | (simp [*]; done), by repeat (first | exact Drawn0.refl _ | apply Drawn0.step)⟩
    · rw [if_neg c3] at H
      have c3b0 : decide (1152921504606846975 < a0) = false := decide_eq_false c3
      clear c3
      simp only [Option.some.injEq, Prod.mk.injEq] at H
      obtain ⟨rfl, rfl⟩ := H
      go_enter Try.func25, Try.ntmps25
      go_wp2
      go_ret2
      exact ⟨by first | rfl | (simp; done) | (simp [*]; done), by repeat (first | exact Drawn0.refl _ | apply Drawn0.step)⟩

/-! ### cell_Int: function 26 -/
def cell_Int.f (a0 : Int) : Option (Int) := some ((wrap64 (a0)) / 8)
set_option maxHeartbeats 8000000 in
set_option maxRecDepth 100000 in
theorem cell_Int.calls (a0 : Int) (r : Int) (w : World) (h : cell_Int.f a0 = some r) :
    Calls Try.prog 26 #[.int .u64 a0] w fun e w' => e = .returned (.int .i64 r) ∧ Drawn0 w w' := by
  have H : (some ((wrap64 (a0)) / 8)) = some r := h
  clear h
  obtain rfl := Option.some.inj H
  go_enter Try.func26, Try.ntmps26
  go_wp2
  go_ret
  exact ⟨by first | rfl | (simp; done) | (simp [*]; done), by repeat (first | exact Drawn0.refl _ | apply Drawn0.step)⟩

/-! ### cell_Tag: function 30 -/
def cell_Tag.f (a0 : Int) : Option (Int) := some (wrap64 (Go.bits .and .u64 a0 7))
set_option maxHeartbeats 8000000 in
set_option maxRecDepth 100000 in
theorem cell_Tag.calls (a0 : Int) (r : Int) (w : World) (h : cell_Tag.f a0 = some r) :
    Calls Try.prog 30 #[.int .u64 a0] w fun e w' => e = .returned (.int .i64 r) ∧ Drawn0 w w' := by
  have H : (some (wrap64 (Go.bits .and .u64 a0 7))) = some r := h
  clear h
  obtain rfl := Option.some.inj H
  go_enter Try.func30, Try.ntmps30
  go_wp2
  go_ret
  exact ⟨by first | rfl | (simp; done) | (simp [*]; done), by repeat (first | exact Drawn0.refl _ | apply Drawn0.step)⟩

/-! ### cell_Value: function 32 -/
def cell_Value.f (a0 : Int) : Option (Int) := some (a0 / 8)
set_option maxHeartbeats 8000000 in
set_option maxRecDepth 100000 in
theorem cell_Value.calls (a0 : Int) (r : Int) (w : World) (h : cell_Value.f a0 = some r) :
    Calls Try.prog 32 #[.int .u64 a0] w fun e w' => e = .returned (.int .u64 r) ∧ Drawn0 w w' := by
  have H : (some (a0 / 8)) = some r := h
  clear h
  obtain rfl := Option.some.inj H
  go_enter Try.func32, Try.ntmps32
  go_wp2
  go_ret
  exact ⟨by first | rfl | (simp; done) | (simp [*]; done), by repeat (first | exact Drawn0.refl _ | apply Drawn0.step)⟩

/-! ### elenchuslaw4_awake: function 27 -/
def elenchuslaw4_awake.f  : Option (Bool) := (cell_Small.f (-1)).bind fun bt101 => (if bt101.2 = true then ((cell_Tag.f bt101.1).bind fun t103 => (if t103 = 3 then ((cell_Value.f bt101.1).bind fun t104 => (if t104 = 2305843009213693951 then ((cell_Int.f bt101.1).bind fun t105 => (some (t105 == (-1)))) else (some false))) else (some false))) else (some false))
set_option maxHeartbeats 8000000 in
set_option maxRecDepth 100000 in
theorem elenchuslaw4_awake.calls  (r : Bool) (w : World) (h : elenchuslaw4_awake.f  = some r) :
    Calls Try.prog 27 #[] w fun e w' => e = .returned (.bool r) ∧ Drawn0 w w' := by
  have H : ((cell_Small.f (-1)).bind fun bt101 => (if bt101.2 = true then ((cell_Tag.f bt101.1).bind fun t103 => (if t103 = 3 then ((cell_Value.f bt101.1).bind fun t104 => (if t104 = 2305843009213693951 then ((cell_Int.f bt101.1).bind fun t105 => (some (t105 == (-1)))) else (some false))) else (some false))) else (some false))) = some r := h
  clear h
  replace H := Option.bind_eq_some_iff.mp H
  obtain ⟨⟨t101, t102⟩, A10, H⟩ := H
  replace H : (if t102 = true then ((cell_Tag.f t101).bind fun t103 => (if t103 = 3 then ((cell_Value.f t101).bind fun t104 => (if t104 = 2305843009213693951 then ((cell_Int.f t101).bind fun t105 => (some (t105 == (-1)))) else (some false))) else (some false))) else (some false)) = some r := H
  have A1 := Aside0.mk A10
  clear A10
  by_cases c2 : t102 = true
  · subst c2
    have H1 : ((cell_Tag.f t101).bind fun t103 => (if t103 = 3 then ((cell_Value.f t101).bind fun t104 => (if t104 = 2305843009213693951 then ((cell_Int.f t101).bind fun t105 => (some (t105 == (-1)))) else (some false))) else (some false))) = some r := by rw [if_pos rfl] at H; exact H
    clear H
    have H := H1
    clear H1
    replace H := Option.bind_eq_some_iff.mp H
    obtain ⟨t103, A30, H⟩ := H
    replace H : (if t103 = 3 then ((cell_Value.f t101).bind fun t104 => (if t104 = 2305843009213693951 then ((cell_Int.f t101).bind fun t105 => (some (t105 == (-1)))) else (some false))) else (some false)) = some r := H
    have A3 := Aside0.mk A30
    clear A30
    by_cases c4 : t103 = 3
    · rw [if_pos c4] at H
      have c4b0 : (t103 == 3) = true := beq_iff_eq.mpr c4
      have c4b1 : (t103 != 3) = false := bne_eq_false_iff_eq.mpr c4
      clear c4
      replace H := Option.bind_eq_some_iff.mp H
      obtain ⟨t104, A50, H⟩ := H
      replace H : (if t104 = 2305843009213693951 then ((cell_Int.f t101).bind fun t105 => (some (t105 == (-1)))) else (some false)) = some r := H
      have A5 := Aside0.mk A50
      clear A50
      by_cases c6 : t104 = 2305843009213693951
      · rw [if_pos c6] at H
        have c6b0 : (t104 == 2305843009213693951) = true := beq_iff_eq.mpr c6
        have c6b1 : (t104 != 2305843009213693951) = false := bne_eq_false_iff_eq.mpr c6
        clear c6
        replace H := Option.bind_eq_some_iff.mp H
        obtain ⟨t105, A70, H⟩ := H
        replace H : (some (t105 == (-1))) = some r := H
        have A7 := Aside0.mk A70
        clear A70
        obtain rfl := Option.some.inj H
        go_enter Try.func27, Try.ntmps27
        go_wp2_with (first | ((with_reducible refine gate_callee (f := 25) rfl ?_); refine goesL_ (some 4) rfl rfl Try.func25 (by kernel_rfl) rfl #[.int .i64 (-1)] rfl (by (try simp only [List.map_toArray, List.map_cons, List.map_nil]); first | done | rfl | (simp only [List.length_drop, List.length_take]; rfl)) ?_; (with_reducible refine (cell_Small.calls (-1) t101 true _ A1.out).mono ?_); rintro e w' ⟨rfl, ⟨nd, rfl⟩⟩; refine ⟨_, rfl, ?_⟩) | (go_at_call 30; (with_reducible refine (cell_Tag.calls t101 t103 _ A3.out).mono ?_); rintro e w' ⟨rfl, ⟨nd, rfl⟩⟩) | (go_at_call 32; (with_reducible refine (cell_Value.calls t101 t104 _ A5.out).mono ?_); rintro e w' ⟨rfl, ⟨nd, rfl⟩⟩) | (go_at_call 26; (with_reducible refine (cell_Int.calls t101 t105 _ A7.out).mono ?_); rintro e w' ⟨rfl, ⟨nd, rfl⟩⟩))
        go_ret
        exact ⟨by first | rfl | (simp; done) | (simp [*]; done), by repeat (first | exact Drawn0.refl _ | apply Drawn0.step)⟩
      · rw [if_neg c6] at H
        have c6b0 : (t104 == 2305843009213693951) = false := beq_eq_false_iff_ne.mpr c6
        have c6b1 : (t104 != 2305843009213693951) = true := bne_iff_ne.mpr c6
        obtain rfl := Option.some.inj H
        go_enter Try.func27, Try.ntmps27
        go_wp2_with (first | ((with_reducible refine gate_callee (f := 25) rfl ?_); refine goesL_ (some 4) rfl rfl Try.func25 (by kernel_rfl) rfl #[.int .i64 (-1)] rfl (by (try simp only [List.map_toArray, List.map_cons, List.map_nil]); first | done | rfl | (simp only [List.length_drop, List.length_take]; rfl)) ?_; (with_reducible refine (cell_Small.calls (-1) t101 true _ A1.out).mono ?_); rintro e w' ⟨rfl, ⟨nd, rfl⟩⟩; refine ⟨_, rfl, ?_⟩) | (go_at_call 30; (with_reducible refine (cell_Tag.calls t101 t103 _ A3.out).mono ?_); rintro e w' ⟨rfl, ⟨nd, rfl⟩⟩) | (go_at_call 32; (with_reducible refine (cell_Value.calls t101 t104 _ A5.out).mono ?_); rintro e w' ⟨rfl, ⟨nd, rfl⟩⟩))
        go_ret
        exact ⟨by first | rfl | (simp; done) | (simp [*]; done), by repeat (first | exact Drawn0.refl _ | apply Drawn0.step)⟩
    · rw [if_neg c4] at H
      have c4b0 : (t103 == 3) = false := beq_eq_false_iff_ne.mpr c4
      have c4b1 : (t103 != 3) = true := bne_iff_ne.mpr c4
      obtain rfl := Option.some.inj H
      go_enter Try.func27, Try.ntmps27
      go_wp2_with (first | ((with_reducible refine gate_callee (f := 25) rfl ?_); refine goesL_ (some 4) rfl rfl Try.func25 (by kernel_rfl) rfl #[.int .i64 (-1)] rfl (by (try simp only [List.map_toArray, List.map_cons, List.map_nil]); first | done | rfl | (simp only [List.length_drop, List.length_take]; rfl)) ?_; (with_reducible refine (cell_Small.calls (-1) t101 true _ A1.out).mono ?_); rintro e w' ⟨rfl, ⟨nd, rfl⟩⟩; refine ⟨_, rfl, ?_⟩) | (go_at_call 30; (with_reducible refine (cell_Tag.calls t101 t103 _ A3.out).mono ?_); rintro e w' ⟨rfl, ⟨nd, rfl⟩⟩))
      go_ret
      exact ⟨by first | rfl | (simp; done) | (simp [*]; done), by repeat (first | exact Drawn0.refl _ | apply Drawn0.step)⟩
  · replace c2 := Bool.eq_false_iff.mpr c2
    subst c2
    have H1 : (some false) = some r := by rw [if_neg (show ¬ (false = true) by decide)] at H; exact H
    clear H
    have H := H1
    clear H1
    obtain rfl := Option.some.inj H
    go_enter Try.func27, Try.ntmps27
    go_wp2_with (first | ((with_reducible refine gate_callee (f := 25) rfl ?_); refine goesL_ (some 4) rfl rfl Try.func25 (by kernel_rfl) rfl #[.int .i64 (-1)] rfl (by (try simp only [List.map_toArray, List.map_cons, List.map_nil]); first | done | rfl | (simp only [List.length_drop, List.length_take]; rfl)) ?_; (with_reducible refine (cell_Small.calls (-1) t101 false _ A1.out).mono ?_); rintro e w' ⟨rfl, ⟨nd, rfl⟩⟩; refine ⟨_, rfl, ?_⟩))
    go_ret
    exact ⟨by first | rfl | (simp; done) | (simp [*]; done), by repeat (first | exact Drawn0.refl _ | apply Drawn0.step)⟩

/-! ### cell_Make: function 28 -/
def cell_Make.f (a0 : Int) (a1 : Int) : Option (Int × Bool) := if a0 < 0 then (some (0, false)) else (if a0 > 6 then (some (0, false)) else (if a1 ≥ 2305843009213693952 then (some (0, false)) else (some (Go.bits .or .u64 (IntKind.u64.wrap (a1 * 8)) (IntKind.u64.wrap (a0)), true))))
set_option maxHeartbeats 8000000 in
set_option maxRecDepth 100000 in
theorem cell_Make.calls (a0 : Int) (a1 : Int) (r1 : Int) (r2 : Bool) (w : World) (h : cell_Make.f a0 a1 = some (r1, r2)) :
    Calls Try.prog 28 #[.int .i64 a0, .int .u64 a1] w fun e w' => e = .returned (.tuple #[.int .u64 r1, .bool r2]) ∧ Drawn0 w w' := by
  have H : (if a0 < 0 then (some (0, false)) else (if a0 > 6 then (some (0, false)) else (if a1 ≥ 2305843009213693952 then (some (0, false)) else (some (Go.bits .or .u64 (IntKind.u64.wrap (a1 * 8)) (IntKind.u64.wrap (a0)), true))))) = some (r1, r2) := h
  clear h
  by_cases c3 : a0 < 0
  · rw [if_pos c3] at H
    have c3b0 : decide (a0 < 0) = true := decide_eq_true c3
    clear c3
    simp only [Option.some.injEq, Prod.mk.injEq] at H
    obtain ⟨rfl, rfl⟩ := H
    go_enter Try.func28, Try.ntmps28
    go_wp2
    go_ret2
    exact ⟨by first | rfl | (simp; done) | (simp [*]; done), by repeat (first | exact Drawn0.refl _ | apply Drawn0.step)⟩
  · rw [if_neg c3] at H
    have c3b0 : decide (a0 < 0) = false := decide_eq_false c3
    clear c3
    by_cases c4 : a0 > 6
    · rw [if_pos c4] at H
      have c4b0 : decide (6 < a0) = true := decide_eq_true c4
      clear c4
      simp only [Option.some.injEq, Prod.mk.injEq] at H
      obtain ⟨rfl, rfl⟩ := H
      go_enter Try.func28, Try.ntmps28
      go_wp2
      go_ret2
      exact ⟨by first | rfl | (simp; done) | (simp [*]; done), by repeat (first | exact Drawn0.refl _ | apply Drawn0.step)⟩
    · rw [if_neg c4] at H
      have c4b0 : decide (6 < a0) = false := decide_eq_false c4
      clear c4
      by_cases c5 : a1 ≥ 2305843009213693952
      · rw [if_pos c5] at H
        have c5b0 : decide (2305843009213693952 ≤ a1) = true := decide_eq_true c5
        clear c5
        simp only [Option.some.injEq, Prod.mk.injEq] at H
        obtain ⟨rfl, rfl⟩ := H
        go_enter Try.func28, Try.ntmps28
        go_wp2
        go_ret2
        exact ⟨by first | rfl | (simp; done) | (simp [*]; done), by repeat (first | exact Drawn0.refl _ | apply Drawn0.step)⟩
      · rw [if_neg c5] at H
        have c5b0 : decide (2305843009213693952 ≤ a1) = false := decide_eq_false c5
        clear c5
        simp only [Option.some.injEq, Prod.mk.injEq] at H
        obtain ⟨rfl, rfl⟩ := H
        go_enter Try.func28, Try.ntmps28
        go_wp2
        go_ret2
        exact ⟨by first | rfl | (simp; done) | (simp [*]; done), by repeat (first | exact Drawn0.refl _ | apply Drawn0.step)⟩

/-! ### cell_Functor: function 40 -/
def cell_Functor.f (a0 : Int) (a1 : Int) : Option (Int × Bool) := if a0 < 0 then (some (0, false)) else (if a0 ≥ 4096 then (some (0, false)) else (if a1 < 1 then (some (0, false)) else (if a1 > 20 then (some (0, false)) else ((cell_Make.f 6 (IntKind.u64.wrap (wrap64 ((wrap64 (a0 * 256)) + a1)))).bind fun bt106 => (some (bt106.1, bt106.2))))))
set_option maxHeartbeats 8000000 in
set_option maxRecDepth 100000 in
theorem cell_Functor.calls (a0 : Int) (a1 : Int) (r1 : Int) (r2 : Bool) (w : World) (h : cell_Functor.f a0 a1 = some (r1, r2)) :
    Calls Try.prog 40 #[.int .i64 a0, .int .i64 a1] w fun e w' => e = .returned (.tuple #[.int .u64 r1, .bool r2]) ∧ Drawn0 w w' := by
  have H : (if a0 < 0 then (some (0, false)) else (if a0 ≥ 4096 then (some (0, false)) else (if a1 < 1 then (some (0, false)) else (if a1 > 20 then (some (0, false)) else ((cell_Make.f 6 (IntKind.u64.wrap (wrap64 ((wrap64 (a0 * 256)) + a1)))).bind fun bt106 => (some (bt106.1, bt106.2))))))) = some (r1, r2) := h
  clear h
  by_cases c3 : a0 < 0
  · rw [if_pos c3] at H
    have c3b0 : decide (a0 < 0) = true := decide_eq_true c3
    clear c3
    simp only [Option.some.injEq, Prod.mk.injEq] at H
    obtain ⟨rfl, rfl⟩ := H
    go_enter Try.func40, Try.ntmps40
    go_wp2
    go_ret2
    exact ⟨by first | rfl | (simp; done) | (simp [*]; done), by repeat (first | exact Drawn0.refl _ | apply Drawn0.step)⟩
  · rw [if_neg c3] at H
    have c3b0 : decide (a0 < 0) = false := decide_eq_false c3
    clear c3
    by_cases c4 : a0 ≥ 4096
    · rw [if_pos c4] at H
      have c4b0 : decide (4096 ≤ a0) = true := decide_eq_true c4
      clear c4
      simp only [Option.some.injEq, Prod.mk.injEq] at H
      obtain ⟨rfl, rfl⟩ := H
      go_enter Try.func40, Try.ntmps40
      go_wp2
      go_ret2
      exact ⟨by first | rfl | (simp; done) | (simp [*]; done), by repeat (first | exact Drawn0.refl _ | apply Drawn0.step)⟩
    · rw [if_neg c4] at H
      have c4b0 : decide (4096 ≤ a0) = false := decide_eq_false c4
      clear c4
      by_cases c5 : a1 < 1
      · rw [if_pos c5] at H
        have c5b0 : decide (a1 < 1) = true := decide_eq_true c5
        clear c5
        simp only [Option.some.injEq, Prod.mk.injEq] at H
        obtain ⟨rfl, rfl⟩ := H
        go_enter Try.func40, Try.ntmps40
        go_wp2
        go_ret2
        exact ⟨by first | rfl | (simp; done) | (simp [*]; done), by repeat (first | exact Drawn0.refl _ | apply Drawn0.step)⟩
      · rw [if_neg c5] at H
        have c5b0 : decide (a1 < 1) = false := decide_eq_false c5
        clear c5
        by_cases c6 : a1 > 20
        · rw [if_pos c6] at H
          have c6b0 : decide (20 < a1) = true := decide_eq_true c6
          clear c6
          simp only [Option.some.injEq, Prod.mk.injEq] at H
          obtain ⟨rfl, rfl⟩ := H
          go_enter Try.func40, Try.ntmps40
          go_wp2
          go_ret2
          exact ⟨by first | rfl | (simp; done) | (simp [*]; done), by repeat (first | exact Drawn0.refl _ | apply Drawn0.step)⟩
        · rw [if_neg c6] at H
          have c6b0 : decide (20 < a1) = false := decide_eq_false c6
          clear c6
          replace H := Option.bind_eq_some_iff.mp H
          obtain ⟨⟨t106, t107⟩, A70, H⟩ := H
          replace H : (some (t106, t107)) = some (r1, r2) := H
          have A7 := Aside0.mk A70
          clear A70
          simp only [Option.some.injEq, Prod.mk.injEq] at H
          obtain ⟨rfl, rfl⟩ := H
          go_enter Try.func40, Try.ntmps40
          go_wp2_with (first | ((with_reducible refine gate_callee (f := 28) rfl ?_); refine goesL_ (some 25) rfl rfl Try.func28 (by kernel_rfl) rfl #[.int .i64 6, .int .u64 (IntKind.u64.wrap (wrap64 ((wrap64 (a0 * 256)) + a1)))] rfl (by (try simp only [List.map_toArray, List.map_cons, List.map_nil]); first | done | rfl | (simp only [List.length_drop, List.length_take]; rfl)) ?_; (with_reducible refine (cell_Make.calls 6 (IntKind.u64.wrap (wrap64 ((wrap64 (a0 * 256)) + a1))) t106 t107 _ A7.out).mono ?_); rintro e w' ⟨rfl, ⟨nd, rfl⟩⟩; refine ⟨_, rfl, ?_⟩))
          go_ret2
          exact ⟨by first | rfl | (simp; done) | (simp [*]; done), by repeat (first | exact Drawn0.refl _ | apply Drawn0.step)⟩

/-! ### cell_Parts: function 42 -/
def cell_Parts.f (a0 : Int) : Option (Int × Int) := (cell_Tag.f a0).bind fun t108 => (if t108 = 6 then ((cell_Value.f a0).bind fun t109 => (some (wrap64 (IntKind.u64.wrap (Int.tdiv t109 256)), wrap64 (Int.tmod t109 256)))) else (some (0, 0)))
set_option maxHeartbeats 8000000 in
set_option maxRecDepth 100000 in
theorem cell_Parts.calls (a0 : Int) (r1 : Int) (r2 : Int) (w : World) (h : cell_Parts.f a0 = some (r1, r2)) :
    Calls Try.prog 42 #[.int .u64 a0] w fun e w' => e = .returned (.tuple #[.int .i64 r1, .int .i64 r2]) ∧ Drawn0 w w' := by
  have H : ((cell_Tag.f a0).bind fun t108 => (if t108 = 6 then ((cell_Value.f a0).bind fun t109 => (some (wrap64 (IntKind.u64.wrap (Int.tdiv t109 256)), wrap64 (Int.tmod t109 256)))) else (some (0, 0)))) = some (r1, r2) := h
  clear h
  replace H := Option.bind_eq_some_iff.mp H
  obtain ⟨t108, A20, H⟩ := H
  replace H : (if t108 = 6 then ((cell_Value.f a0).bind fun t109 => (some (wrap64 (IntKind.u64.wrap (Int.tdiv t109 256)), wrap64 (Int.tmod t109 256)))) else (some (0, 0))) = some (r1, r2) := H
  have A2 := Aside0.mk A20
  clear A20
  by_cases c3 : t108 = 6
  · rw [if_pos c3] at H
    have c3b0 : (t108 == 6) = true := beq_iff_eq.mpr c3
    have c3b1 : (t108 != 6) = false := bne_eq_false_iff_eq.mpr c3
    clear c3
    replace H := Option.bind_eq_some_iff.mp H
    obtain ⟨t109, A40, H⟩ := H
    replace H : (some (wrap64 (IntKind.u64.wrap (Int.tdiv t109 256)), wrap64 (Int.tmod t109 256))) = some (r1, r2) := H
    have A4 := Aside0.mk A40
    clear A40
    simp only [Option.some.injEq, Prod.mk.injEq] at H
    obtain ⟨rfl, rfl⟩ := H
    go_enter Try.func42, Try.ntmps42
    go_wp2_with (first | ((with_reducible refine gate_callee (f := 30) rfl ?_); refine goesL_ (some 6) rfl rfl Try.func30 (by kernel_rfl) rfl #[.int .u64 a0] rfl (by (try simp only [List.map_toArray, List.map_cons, List.map_nil]); first | done | rfl | (simp only [List.length_drop, List.length_take]; rfl)) ?_; (with_reducible refine (cell_Tag.calls a0 t108 _ A2.out).mono ?_); rintro e w' ⟨rfl, ⟨nd, rfl⟩⟩; refine ⟨_, rfl, ?_⟩) | ((with_reducible refine gate_callee (f := 32) rfl ?_); refine goesL_ (some 9) rfl rfl Try.func32 (by kernel_rfl) rfl #[.int .u64 a0] rfl (by (try simp only [List.map_toArray, List.map_cons, List.map_nil]); first | done | rfl | (simp only [List.length_drop, List.length_take]; rfl)) ?_; (with_reducible refine (cell_Value.calls a0 t109 _ A4.out).mono ?_); rintro e w' ⟨rfl, ⟨nd, rfl⟩⟩; refine ⟨_, rfl, ?_⟩))
    go_ret2
    exact ⟨by first | rfl | (simp; done) | (simp [*]; done), by repeat (first | exact Drawn0.refl _ | apply Drawn0.step)⟩
  · rw [if_neg c3] at H
    have c3b0 : (t108 == 6) = false := beq_eq_false_iff_ne.mpr c3
    have c3b1 : (t108 != 6) = true := bne_iff_ne.mpr c3
    simp only [Option.some.injEq, Prod.mk.injEq] at H
    obtain ⟨rfl, rfl⟩ := H
    go_enter Try.func42, Try.ntmps42
    go_wp2_with (first | ((with_reducible refine gate_callee (f := 30) rfl ?_); refine goesL_ (some 6) rfl rfl Try.func30 (by kernel_rfl) rfl #[.int .u64 a0] rfl (by (try simp only [List.map_toArray, List.map_cons, List.map_nil]); first | done | rfl | (simp only [List.length_drop, List.length_take]; rfl)) ?_; (with_reducible refine (cell_Tag.calls a0 t108 _ A2.out).mono ?_); rintro e w' ⟨rfl, ⟨nd, rfl⟩⟩; refine ⟨_, rfl, ?_⟩))
    go_ret2
    exact ⟨by first | rfl | (simp; done) | (simp [*]; done), by repeat (first | exact Drawn0.refl _ | apply Drawn0.step)⟩

/-! ### elenchuslaw4_CellBack: function 8 -/
def elenchuslaw4_CellBack.f (a0 : Int) (a1 : Int) (a2 : Int) (a3 : Int) (a4 : Int) : Option (Bool) := (cell_Make.f (wrap64 (Int.tmod (IntKind.u64.wrap (a0)) 7)) (Go.bits .and .u64 a1 2305843009213693951)).bind fun bt110 => ((cell_Small.f ((wrap64 (a2 * 8)) / 8)).bind fun bt112 => ((cell_Functor.f (wrap64 (Int.tmod (IntKind.u64.wrap (a3)) 4096)) (wrap64 ((wrap64 (Int.tmod (IntKind.u64.wrap (a4)) 20)) + 1))).bind fun bt114 => ((cell_Parts.f bt114.1).bind fun bt116 => (if bt110.2 = true then ((cell_Tag.f bt110.1).bind fun t118 => (if t118 = (wrap64 (Int.tmod (IntKind.u64.wrap (a0)) 7)) then ((cell_Value.f bt110.1).bind fun t119 => (if t119 = (Go.bits .and .u64 a1 2305843009213693951) then (if bt112.2 = true then ((cell_Int.f bt112.1).bind fun t120 => (if t120 = ((wrap64 (a2 * 8)) / 8) then (if bt114.2 = true then ((cell_Tag.f bt114.1).bind fun t121 => (if t121 = 6 then (if bt116.1 = (wrap64 (Int.tmod (IntKind.u64.wrap (a3)) 4096)) then (if bt116.2 = (wrap64 ((wrap64 (Int.tmod (IntKind.u64.wrap (a4)) 20)) + 1)) then ((elenchuslaw4_awake.f).bind fun t122 => (some t122)) else (some false)) else (some false)) else (some false))) else (some false)) else (some false))) else (some false)) else (some false))) else (some false))) else (some false)))))
set_option maxHeartbeats 8000000 in
set_option maxRecDepth 100000 in
theorem elenchuslaw4_CellBack.calls (a0 : Int) (a1 : Int) (a2 : Int) (a3 : Int) (a4 : Int) (r : Bool) (w : World) (h : elenchuslaw4_CellBack.f a0 a1 a2 a3 a4 = some r) :
    Calls Try.prog 8 #[.int .i64 a0, .int .u64 a1, .int .i64 a2, .int .i64 a3, .int .i64 a4] w fun e w' => e = .returned (.bool r) ∧ Drawn0 w w' := by
  have H : ((cell_Make.f (wrap64 (Int.tmod (IntKind.u64.wrap (a0)) 7)) (Go.bits .and .u64 a1 2305843009213693951)).bind fun bt110 => ((cell_Small.f ((wrap64 (a2 * 8)) / 8)).bind fun bt112 => ((cell_Functor.f (wrap64 (Int.tmod (IntKind.u64.wrap (a3)) 4096)) (wrap64 ((wrap64 (Int.tmod (IntKind.u64.wrap (a4)) 20)) + 1))).bind fun bt114 => ((cell_Parts.f bt114.1).bind fun bt116 => (if bt110.2 = true then ((cell_Tag.f bt110.1).bind fun t118 => (if t118 = (wrap64 (Int.tmod (IntKind.u64.wrap (a0)) 7)) then ((cell_Value.f bt110.1).bind fun t119 => (if t119 = (Go.bits .and .u64 a1 2305843009213693951) then (if bt112.2 = true then ((cell_Int.f bt112.1).bind fun t120 => (if t120 = ((wrap64 (a2 * 8)) / 8) then (if bt114.2 = true then ((cell_Tag.f bt114.1).bind fun t121 => (if t121 = 6 then (if bt116.1 = (wrap64 (Int.tmod (IntKind.u64.wrap (a3)) 4096)) then (if bt116.2 = (wrap64 ((wrap64 (Int.tmod (IntKind.u64.wrap (a4)) 20)) + 1)) then ((elenchuslaw4_awake.f).bind fun t122 => (some t122)) else (some false)) else (some false)) else (some false))) else (some false)) else (some false))) else (some false)) else (some false))) else (some false))) else (some false)))))) = some r := h
  clear h
  replace H := Option.bind_eq_some_iff.mp H
  obtain ⟨⟨t110, t111⟩, A60, H⟩ := H
  replace H : ((cell_Small.f ((wrap64 (a2 * 8)) / 8)).bind fun bt112 => ((cell_Functor.f (wrap64 (Int.tmod (IntKind.u64.wrap (a3)) 4096)) (wrap64 ((wrap64 (Int.tmod (IntKind.u64.wrap (a4)) 20)) + 1))).bind fun bt114 => ((cell_Parts.f bt114.1).bind fun bt116 => (if t111 = true then ((cell_Tag.f t110).bind fun t118 => (if t118 = (wrap64 (Int.tmod (IntKind.u64.wrap (a0)) 7)) then ((cell_Value.f t110).bind fun t119 => (if t119 = (Go.bits .and .u64 a1 2305843009213693951) then (if bt112.2 = true then ((cell_Int.f bt112.1).bind fun t120 => (if t120 = ((wrap64 (a2 * 8)) / 8) then (if bt114.2 = true then ((cell_Tag.f bt114.1).bind fun t121 => (if t121 = 6 then (if bt116.1 = (wrap64 (Int.tmod (IntKind.u64.wrap (a3)) 4096)) then (if bt116.2 = (wrap64 ((wrap64 (Int.tmod (IntKind.u64.wrap (a4)) 20)) + 1)) then ((elenchuslaw4_awake.f).bind fun t122 => (some t122)) else (some false)) else (some false)) else (some false))) else (some false)) else (some false))) else (some false)) else (some false))) else (some false))) else (some false))))) = some r := H
  have A6 := Aside0.mk A60
  clear A60
  replace H := Option.bind_eq_some_iff.mp H
  obtain ⟨⟨t112, t113⟩, A70, H⟩ := H
  replace H : ((cell_Functor.f (wrap64 (Int.tmod (IntKind.u64.wrap (a3)) 4096)) (wrap64 ((wrap64 (Int.tmod (IntKind.u64.wrap (a4)) 20)) + 1))).bind fun bt114 => ((cell_Parts.f bt114.1).bind fun bt116 => (if t111 = true then ((cell_Tag.f t110).bind fun t118 => (if t118 = (wrap64 (Int.tmod (IntKind.u64.wrap (a0)) 7)) then ((cell_Value.f t110).bind fun t119 => (if t119 = (Go.bits .and .u64 a1 2305843009213693951) then (if t113 = true then ((cell_Int.f t112).bind fun t120 => (if t120 = ((wrap64 (a2 * 8)) / 8) then (if bt114.2 = true then ((cell_Tag.f bt114.1).bind fun t121 => (if t121 = 6 then (if bt116.1 = (wrap64 (Int.tmod (IntKind.u64.wrap (a3)) 4096)) then (if bt116.2 = (wrap64 ((wrap64 (Int.tmod (IntKind.u64.wrap (a4)) 20)) + 1)) then ((elenchuslaw4_awake.f).bind fun t122 => (some t122)) else (some false)) else (some false)) else (some false))) else (some false)) else (some false))) else (some false)) else (some false))) else (some false))) else (some false)))) = some r := H
  have A7 := Aside0.mk A70
  clear A70
  replace H := Option.bind_eq_some_iff.mp H
  obtain ⟨⟨t114, t115⟩, A80, H⟩ := H
  replace H : ((cell_Parts.f t114).bind fun bt116 => (if t111 = true then ((cell_Tag.f t110).bind fun t118 => (if t118 = (wrap64 (Int.tmod (IntKind.u64.wrap (a0)) 7)) then ((cell_Value.f t110).bind fun t119 => (if t119 = (Go.bits .and .u64 a1 2305843009213693951) then (if t113 = true then ((cell_Int.f t112).bind fun t120 => (if t120 = ((wrap64 (a2 * 8)) / 8) then (if t115 = true then ((cell_Tag.f t114).bind fun t121 => (if t121 = 6 then (if bt116.1 = (wrap64 (Int.tmod (IntKind.u64.wrap (a3)) 4096)) then (if bt116.2 = (wrap64 ((wrap64 (Int.tmod (IntKind.u64.wrap (a4)) 20)) + 1)) then ((elenchuslaw4_awake.f).bind fun t122 => (some t122)) else (some false)) else (some false)) else (some false))) else (some false)) else (some false))) else (some false)) else (some false))) else (some false))) else (some false))) = some r := H
  have A8 := Aside0.mk A80
  clear A80
  replace H := Option.bind_eq_some_iff.mp H
  obtain ⟨⟨t116, t117⟩, A90, H⟩ := H
  replace H : (if t111 = true then ((cell_Tag.f t110).bind fun t118 => (if t118 = (wrap64 (Int.tmod (IntKind.u64.wrap (a0)) 7)) then ((cell_Value.f t110).bind fun t119 => (if t119 = (Go.bits .and .u64 a1 2305843009213693951) then (if t113 = true then ((cell_Int.f t112).bind fun t120 => (if t120 = ((wrap64 (a2 * 8)) / 8) then (if t115 = true then ((cell_Tag.f t114).bind fun t121 => (if t121 = 6 then (if t116 = (wrap64 (Int.tmod (IntKind.u64.wrap (a3)) 4096)) then (if t117 = (wrap64 ((wrap64 (Int.tmod (IntKind.u64.wrap (a4)) 20)) + 1)) then ((elenchuslaw4_awake.f).bind fun t122 => (some t122)) else (some false)) else (some false)) else (some false))) else (some false)) else (some false))) else (some false)) else (some false))) else (some false))) else (some false)) = some r := H
  have A9 := Aside0.mk A90
  clear A90
  by_cases c10 : t111 = true
  · subst c10
    have H1 : ((cell_Tag.f t110).bind fun t118 => (if t118 = (wrap64 (Int.tmod (IntKind.u64.wrap (a0)) 7)) then ((cell_Value.f t110).bind fun t119 => (if t119 = (Go.bits .and .u64 a1 2305843009213693951) then (if t113 = true then ((cell_Int.f t112).bind fun t120 => (if t120 = ((wrap64 (a2 * 8)) / 8) then (if t115 = true then ((cell_Tag.f t114).bind fun t121 => (if t121 = 6 then (if t116 = (wrap64 (Int.tmod (IntKind.u64.wrap (a3)) 4096)) then (if t117 = (wrap64 ((wrap64 (Int.tmod (IntKind.u64.wrap (a4)) 20)) + 1)) then ((elenchuslaw4_awake.f).bind fun t122 => (some t122)) else (some false)) else (some false)) else (some false))) else (some false)) else (some false))) else (some false)) else (some false))) else (some false))) = some r := by rw [if_pos rfl] at H; exact H
    clear H
    have H := H1
    clear H1
    replace H := Option.bind_eq_some_iff.mp H
    obtain ⟨t118, A110, H⟩ := H
    replace H : (if t118 = (wrap64 (Int.tmod (IntKind.u64.wrap (a0)) 7)) then ((cell_Value.f t110).bind fun t119 => (if t119 = (Go.bits .and .u64 a1 2305843009213693951) then (if t113 = true then ((cell_Int.f t112).bind fun t120 => (if t120 = ((wrap64 (a2 * 8)) / 8) then (if t115 = true then ((cell_Tag.f t114).bind fun t121 => (if t121 = 6 then (if t116 = (wrap64 (Int.tmod (IntKind.u64.wrap (a3)) 4096)) then (if t117 = (wrap64 ((wrap64 (Int.tmod (IntKind.u64.wrap (a4)) 20)) + 1)) then ((elenchuslaw4_awake.f).bind fun t122 => (some t122)) else (some false)) else (some false)) else (some false))) else (some false)) else (some false))) else (some false)) else (some false))) else (some false)) = some r := H
    have A11 := Aside0.mk A110
    clear A110
    by_cases c12 : t118 = (wrap64 (Int.tmod (IntKind.u64.wrap (a0)) 7))
    · rw [if_pos c12] at H
      have c12b0 : (t118 == (wrap64 (Int.tmod (IntKind.u64.wrap (a0)) 7))) = true := beq_iff_eq.mpr c12
      have c12b1 : (t118 != (wrap64 (Int.tmod (IntKind.u64.wrap (a0)) 7))) = false := bne_eq_false_iff_eq.mpr c12
      clear c12
      replace H := Option.bind_eq_some_iff.mp H
      obtain ⟨t119, A130, H⟩ := H
      replace H : (if t119 = (Go.bits .and .u64 a1 2305843009213693951) then (if t113 = true then ((cell_Int.f t112).bind fun t120 => (if t120 = ((wrap64 (a2 * 8)) / 8) then (if t115 = true then ((cell_Tag.f t114).bind fun t121 => (if t121 = 6 then (if t116 = (wrap64 (Int.tmod (IntKind.u64.wrap (a3)) 4096)) then (if t117 = (wrap64 ((wrap64 (Int.tmod (IntKind.u64.wrap (a4)) 20)) + 1)) then ((elenchuslaw4_awake.f).bind fun t122 => (some t122)) else (some false)) else (some false)) else (some false))) else (some false)) else (some false))) else (some false)) else (some false)) = some r := H
      have A13 := Aside0.mk A130
      clear A130
      by_cases c14 : t119 = (Go.bits .and .u64 a1 2305843009213693951)
      · rw [if_pos c14] at H
        have c14b0 : (t119 == (Go.bits .and .u64 a1 2305843009213693951)) = true := beq_iff_eq.mpr c14
        have c14b1 : (t119 != (Go.bits .and .u64 a1 2305843009213693951)) = false := bne_eq_false_iff_eq.mpr c14
        clear c14
        by_cases c15 : t113 = true
        · subst c15
          have H1 : ((cell_Int.f t112).bind fun t120 => (if t120 = ((wrap64 (a2 * 8)) / 8) then (if t115 = true then ((cell_Tag.f t114).bind fun t121 => (if t121 = 6 then (if t116 = (wrap64 (Int.tmod (IntKind.u64.wrap (a3)) 4096)) then (if t117 = (wrap64 ((wrap64 (Int.tmod (IntKind.u64.wrap (a4)) 20)) + 1)) then ((elenchuslaw4_awake.f).bind fun t122 => (some t122)) else (some false)) else (some false)) else (some false))) else (some false)) else (some false))) = some r := by rw [if_pos rfl] at H; exact H
          clear H
          have H := H1
          clear H1
          replace H := Option.bind_eq_some_iff.mp H
          obtain ⟨t120, A160, H⟩ := H
          replace H : (if t120 = ((wrap64 (a2 * 8)) / 8) then (if t115 = true then ((cell_Tag.f t114).bind fun t121 => (if t121 = 6 then (if t116 = (wrap64 (Int.tmod (IntKind.u64.wrap (a3)) 4096)) then (if t117 = (wrap64 ((wrap64 (Int.tmod (IntKind.u64.wrap (a4)) 20)) + 1)) then ((elenchuslaw4_awake.f).bind fun t122 => (some t122)) else (some false)) else (some false)) else (some false))) else (some false)) else (some false)) = some r := H
          have A16 := Aside0.mk A160
          clear A160
          by_cases c17 : t120 = ((wrap64 (a2 * 8)) / 8)
          · rw [if_pos c17] at H
            have c17b0 : (t120 == ((wrap64 (a2 * 8)) / 8)) = true := beq_iff_eq.mpr c17
            have c17b1 : (t120 != ((wrap64 (a2 * 8)) / 8)) = false := bne_eq_false_iff_eq.mpr c17
            clear c17
            by_cases c18 : t115 = true
            · subst c18
              have H1 : ((cell_Tag.f t114).bind fun t121 => (if t121 = 6 then (if t116 = (wrap64 (Int.tmod (IntKind.u64.wrap (a3)) 4096)) then (if t117 = (wrap64 ((wrap64 (Int.tmod (IntKind.u64.wrap (a4)) 20)) + 1)) then ((elenchuslaw4_awake.f).bind fun t122 => (some t122)) else (some false)) else (some false)) else (some false))) = some r := by rw [if_pos rfl] at H; exact H
              clear H
              have H := H1
              clear H1
              replace H := Option.bind_eq_some_iff.mp H
              obtain ⟨t121, A190, H⟩ := H
              replace H : (if t121 = 6 then (if t116 = (wrap64 (Int.tmod (IntKind.u64.wrap (a3)) 4096)) then (if t117 = (wrap64 ((wrap64 (Int.tmod (IntKind.u64.wrap (a4)) 20)) + 1)) then ((elenchuslaw4_awake.f).bind fun t122 => (some t122)) else (some false)) else (some false)) else (some false)) = some r := H
              have A19 := Aside0.mk A190
              clear A190
              by_cases c20 : t121 = 6
              · rw [if_pos c20] at H
                have c20b0 : (t121 == 6) = true := beq_iff_eq.mpr c20
                have c20b1 : (t121 != 6) = false := bne_eq_false_iff_eq.mpr c20
                clear c20
                by_cases c21 : t116 = (wrap64 (Int.tmod (IntKind.u64.wrap (a3)) 4096))
                · rw [if_pos c21] at H
                  have c21b0 : (t116 == (wrap64 (Int.tmod (IntKind.u64.wrap (a3)) 4096))) = true := beq_iff_eq.mpr c21
                  have c21b1 : (t116 != (wrap64 (Int.tmod (IntKind.u64.wrap (a3)) 4096))) = false := bne_eq_false_iff_eq.mpr c21
                  clear c21
                  by_cases c22 : t117 = (wrap64 ((wrap64 (Int.tmod (IntKind.u64.wrap (a4)) 20)) + 1))
                  · rw [if_pos c22] at H
                    have c22b0 : (t117 == (wrap64 ((wrap64 (Int.tmod (IntKind.u64.wrap (a4)) 20)) + 1))) = true := beq_iff_eq.mpr c22
                    have c22b1 : (t117 != (wrap64 ((wrap64 (Int.tmod (IntKind.u64.wrap (a4)) 20)) + 1))) = false := bne_eq_false_iff_eq.mpr c22
                    clear c22
                    replace H := Option.bind_eq_some_iff.mp H
                    obtain ⟨t122, A230, H⟩ := H
                    replace H : (some t122) = some r := H
                    have A23 := Aside0.mk A230
                    clear A230
                    obtain rfl := Option.some.inj H
                    go_enter Try.func8, Try.ntmps8
                    go_wp2_with (first | ((with_reducible refine gate_callee (f := 28) rfl ?_); refine goesL_ (some 40) rfl rfl Try.func28 (by kernel_rfl) rfl #[.int .i64 (wrap64 (Int.tmod (IntKind.u64.wrap (a0)) 7)), .int .u64 (Go.bits .and .u64 a1 2305843009213693951)] rfl (by (try simp only [List.map_toArray, List.map_cons, List.map_nil]); first | done | rfl | (simp only [List.length_drop, List.length_take]; rfl)) ?_; (with_reducible refine (cell_Make.calls (wrap64 (Int.tmod (IntKind.u64.wrap (a0)) 7)) (Go.bits .and .u64 a1 2305843009213693951) t110 true _ A6.out).mono ?_); rintro e w' ⟨rfl, ⟨nd, rfl⟩⟩; refine ⟨_, rfl, ?_⟩) | ((with_reducible refine gate_callee (f := 25) rfl ?_); refine goesL_ (some 45) rfl rfl Try.func25 (by kernel_rfl) rfl #[.int .i64 ((wrap64 (a2 * 8)) / 8)] rfl (by (try simp only [List.map_toArray, List.map_cons, List.map_nil]); first | done | rfl | (simp only [List.length_drop, List.length_take]; rfl)) ?_; (with_reducible refine (cell_Small.calls ((wrap64 (a2 * 8)) / 8) t112 true _ A7.out).mono ?_); rintro e w' ⟨rfl, ⟨nd, rfl⟩⟩; refine ⟨_, rfl, ?_⟩) | ((with_reducible refine gate_callee (f := 40) rfl ?_); refine goesL_ (some 51) rfl rfl Try.func40 (by kernel_rfl) rfl #[.int .i64 (wrap64 (Int.tmod (IntKind.u64.wrap (a3)) 4096)), .int .i64 (wrap64 ((wrap64 (Int.tmod (IntKind.u64.wrap (a4)) 20)) + 1))] rfl (by (try simp only [List.map_toArray, List.map_cons, List.map_nil]); first | done | rfl | (simp only [List.length_drop, List.length_take]; rfl)) ?_; (with_reducible refine (cell_Functor.calls (wrap64 (Int.tmod (IntKind.u64.wrap (a3)) 4096)) (wrap64 ((wrap64 (Int.tmod (IntKind.u64.wrap (a4)) 20)) + 1)) t114 true _ A8.out).mono ?_); rintro e w' ⟨rfl, ⟨nd, rfl⟩⟩; refine ⟨_, rfl, ?_⟩) | ((with_reducible refine gate_callee (f := 42) rfl ?_); refine goesL_ (some 56) rfl rfl Try.func42 (by kernel_rfl) rfl #[.int .u64 t114] rfl (by (try simp only [List.map_toArray, List.map_cons, List.map_nil]); first | done | rfl | (simp only [List.length_drop, List.length_take]; rfl)) ?_; (with_reducible refine (cell_Parts.calls t114 t116 t117 _ A9.out).mono ?_); rintro e w' ⟨rfl, ⟨nd, rfl⟩⟩; refine ⟨_, rfl, ?_⟩) | (go_at_call 30; (with_reducible refine (cell_Tag.calls t110 t118 _ A11.out).mono ?_); rintro e w' ⟨rfl, ⟨nd, rfl⟩⟩) | (go_at_call 32; (with_reducible refine (cell_Value.calls t110 t119 _ A13.out).mono ?_); rintro e w' ⟨rfl, ⟨nd, rfl⟩⟩) | (go_at_call 26; (with_reducible refine (cell_Int.calls t112 t120 _ A16.out).mono ?_); rintro e w' ⟨rfl, ⟨nd, rfl⟩⟩) | (go_at_call 30; (with_reducible refine (cell_Tag.calls t114 t121 _ A19.out).mono ?_); rintro e w' ⟨rfl, ⟨nd, rfl⟩⟩) | (go_at_call 27; (with_reducible refine (elenchuslaw4_awake.calls  t122 _ A23.out).mono ?_); rintro e w' ⟨rfl, ⟨nd, rfl⟩⟩))
                    go_ret
                    exact ⟨by first | rfl | (simp; done) | (simp [*]; done), by repeat (first | exact Drawn0.refl _ | apply Drawn0.step)⟩
                  · rw [if_neg c22] at H
                    have c22b0 : (t117 == (wrap64 ((wrap64 (Int.tmod (IntKind.u64.wrap (a4)) 20)) + 1))) = false := beq_eq_false_iff_ne.mpr c22
                    have c22b1 : (t117 != (wrap64 ((wrap64 (Int.tmod (IntKind.u64.wrap (a4)) 20)) + 1))) = true := bne_iff_ne.mpr c22
                    obtain rfl := Option.some.inj H
                    go_enter Try.func8, Try.ntmps8
                    go_wp2_with (first | ((with_reducible refine gate_callee (f := 28) rfl ?_); refine goesL_ (some 40) rfl rfl Try.func28 (by kernel_rfl) rfl #[.int .i64 (wrap64 (Int.tmod (IntKind.u64.wrap (a0)) 7)), .int .u64 (Go.bits .and .u64 a1 2305843009213693951)] rfl (by (try simp only [List.map_toArray, List.map_cons, List.map_nil]); first | done | rfl | (simp only [List.length_drop, List.length_take]; rfl)) ?_; (with_reducible refine (cell_Make.calls (wrap64 (Int.tmod (IntKind.u64.wrap (a0)) 7)) (Go.bits .and .u64 a1 2305843009213693951) t110 true _ A6.out).mono ?_); rintro e w' ⟨rfl, ⟨nd, rfl⟩⟩; refine ⟨_, rfl, ?_⟩) | ((with_reducible refine gate_callee (f := 25) rfl ?_); refine goesL_ (some 45) rfl rfl Try.func25 (by kernel_rfl) rfl #[.int .i64 ((wrap64 (a2 * 8)) / 8)] rfl (by (try simp only [List.map_toArray, List.map_cons, List.map_nil]); first | done | rfl | (simp only [List.length_drop, List.length_take]; rfl)) ?_; (with_reducible refine (cell_Small.calls ((wrap64 (a2 * 8)) / 8) t112 true _ A7.out).mono ?_); rintro e w' ⟨rfl, ⟨nd, rfl⟩⟩; refine ⟨_, rfl, ?_⟩) | ((with_reducible refine gate_callee (f := 40) rfl ?_); refine goesL_ (some 51) rfl rfl Try.func40 (by kernel_rfl) rfl #[.int .i64 (wrap64 (Int.tmod (IntKind.u64.wrap (a3)) 4096)), .int .i64 (wrap64 ((wrap64 (Int.tmod (IntKind.u64.wrap (a4)) 20)) + 1))] rfl (by (try simp only [List.map_toArray, List.map_cons, List.map_nil]); first | done | rfl | (simp only [List.length_drop, List.length_take]; rfl)) ?_; (with_reducible refine (cell_Functor.calls (wrap64 (Int.tmod (IntKind.u64.wrap (a3)) 4096)) (wrap64 ((wrap64 (Int.tmod (IntKind.u64.wrap (a4)) 20)) + 1)) t114 true _ A8.out).mono ?_); rintro e w' ⟨rfl, ⟨nd, rfl⟩⟩; refine ⟨_, rfl, ?_⟩) | ((with_reducible refine gate_callee (f := 42) rfl ?_); refine goesL_ (some 56) rfl rfl Try.func42 (by kernel_rfl) rfl #[.int .u64 t114] rfl (by (try simp only [List.map_toArray, List.map_cons, List.map_nil]); first | done | rfl | (simp only [List.length_drop, List.length_take]; rfl)) ?_; (with_reducible refine (cell_Parts.calls t114 t116 t117 _ A9.out).mono ?_); rintro e w' ⟨rfl, ⟨nd, rfl⟩⟩; refine ⟨_, rfl, ?_⟩) | (go_at_call 30; (with_reducible refine (cell_Tag.calls t110 t118 _ A11.out).mono ?_); rintro e w' ⟨rfl, ⟨nd, rfl⟩⟩) | (go_at_call 32; (with_reducible refine (cell_Value.calls t110 t119 _ A13.out).mono ?_); rintro e w' ⟨rfl, ⟨nd, rfl⟩⟩) | (go_at_call 26; (with_reducible refine (cell_Int.calls t112 t120 _ A16.out).mono ?_); rintro e w' ⟨rfl, ⟨nd, rfl⟩⟩) | (go_at_call 30; (with_reducible refine (cell_Tag.calls t114 t121 _ A19.out).mono ?_); rintro e w' ⟨rfl, ⟨nd, rfl⟩⟩))
                    go_ret
                    exact ⟨by first | rfl | (simp; done) | (simp [*]; done), by repeat (first | exact Drawn0.refl _ | apply Drawn0.step)⟩
                · rw [if_neg c21] at H
                  have c21b0 : (t116 == (wrap64 (Int.tmod (IntKind.u64.wrap (a3)) 4096))) = false := beq_eq_false_iff_ne.mpr c21
                  have c21b1 : (t116 != (wrap64 (Int.tmod (IntKind.u64.wrap (a3)) 4096))) = true := bne_iff_ne.mpr c21
                  obtain rfl := Option.some.inj H
                  go_enter Try.func8, Try.ntmps8
                  go_wp2_with (first | ((with_reducible refine gate_callee (f := 28) rfl ?_); refine goesL_ (some 40) rfl rfl Try.func28 (by kernel_rfl) rfl #[.int .i64 (wrap64 (Int.tmod (IntKind.u64.wrap (a0)) 7)), .int .u64 (Go.bits .and .u64 a1 2305843009213693951)] rfl (by (try simp only [List.map_toArray, List.map_cons, List.map_nil]); first | done | rfl | (simp only [List.length_drop, List.length_take]; rfl)) ?_; (with_reducible refine (cell_Make.calls (wrap64 (Int.tmod (IntKind.u64.wrap (a0)) 7)) (Go.bits .and .u64 a1 2305843009213693951) t110 true _ A6.out).mono ?_); rintro e w' ⟨rfl, ⟨nd, rfl⟩⟩; refine ⟨_, rfl, ?_⟩) | ((with_reducible refine gate_callee (f := 25) rfl ?_); refine goesL_ (some 45) rfl rfl Try.func25 (by kernel_rfl) rfl #[.int .i64 ((wrap64 (a2 * 8)) / 8)] rfl (by (try simp only [List.map_toArray, List.map_cons, List.map_nil]); first | done | rfl | (simp only [List.length_drop, List.length_take]; rfl)) ?_; (with_reducible refine (cell_Small.calls ((wrap64 (a2 * 8)) / 8) t112 true _ A7.out).mono ?_); rintro e w' ⟨rfl, ⟨nd, rfl⟩⟩; refine ⟨_, rfl, ?_⟩) | ((with_reducible refine gate_callee (f := 40) rfl ?_); refine goesL_ (some 51) rfl rfl Try.func40 (by kernel_rfl) rfl #[.int .i64 (wrap64 (Int.tmod (IntKind.u64.wrap (a3)) 4096)), .int .i64 (wrap64 ((wrap64 (Int.tmod (IntKind.u64.wrap (a4)) 20)) + 1))] rfl (by (try simp only [List.map_toArray, List.map_cons, List.map_nil]); first | done | rfl | (simp only [List.length_drop, List.length_take]; rfl)) ?_; (with_reducible refine (cell_Functor.calls (wrap64 (Int.tmod (IntKind.u64.wrap (a3)) 4096)) (wrap64 ((wrap64 (Int.tmod (IntKind.u64.wrap (a4)) 20)) + 1)) t114 true _ A8.out).mono ?_); rintro e w' ⟨rfl, ⟨nd, rfl⟩⟩; refine ⟨_, rfl, ?_⟩) | ((with_reducible refine gate_callee (f := 42) rfl ?_); refine goesL_ (some 56) rfl rfl Try.func42 (by kernel_rfl) rfl #[.int .u64 t114] rfl (by (try simp only [List.map_toArray, List.map_cons, List.map_nil]); first | done | rfl | (simp only [List.length_drop, List.length_take]; rfl)) ?_; (with_reducible refine (cell_Parts.calls t114 t116 t117 _ A9.out).mono ?_); rintro e w' ⟨rfl, ⟨nd, rfl⟩⟩; refine ⟨_, rfl, ?_⟩) | (go_at_call 30; (with_reducible refine (cell_Tag.calls t110 t118 _ A11.out).mono ?_); rintro e w' ⟨rfl, ⟨nd, rfl⟩⟩) | (go_at_call 32; (with_reducible refine (cell_Value.calls t110 t119 _ A13.out).mono ?_); rintro e w' ⟨rfl, ⟨nd, rfl⟩⟩) | (go_at_call 26; (with_reducible refine (cell_Int.calls t112 t120 _ A16.out).mono ?_); rintro e w' ⟨rfl, ⟨nd, rfl⟩⟩) | (go_at_call 30; (with_reducible refine (cell_Tag.calls t114 t121 _ A19.out).mono ?_); rintro e w' ⟨rfl, ⟨nd, rfl⟩⟩))
                  go_ret
                  exact ⟨by first | rfl | (simp; done) | (simp [*]; done), by repeat (first | exact Drawn0.refl _ | apply Drawn0.step)⟩
              · rw [if_neg c20] at H
                have c20b0 : (t121 == 6) = false := beq_eq_false_iff_ne.mpr c20
                have c20b1 : (t121 != 6) = true := bne_iff_ne.mpr c20
                obtain rfl := Option.some.inj H
                go_enter Try.func8, Try.ntmps8
                go_wp2_with (first | ((with_reducible refine gate_callee (f := 28) rfl ?_); refine goesL_ (some 40) rfl rfl Try.func28 (by kernel_rfl) rfl #[.int .i64 (wrap64 (Int.tmod (IntKind.u64.wrap (a0)) 7)), .int .u64 (Go.bits .and .u64 a1 2305843009213693951)] rfl (by (try simp only [List.map_toArray, List.map_cons, List.map_nil]); first | done | rfl | (simp only [List.length_drop, List.length_take]; rfl)) ?_; (with_reducible refine (cell_Make.calls (wrap64 (Int.tmod (IntKind.u64.wrap (a0)) 7)) (Go.bits .and .u64 a1 2305843009213693951) t110 true _ A6.out).mono ?_); rintro e w' ⟨rfl, ⟨nd, rfl⟩⟩; refine ⟨_, rfl, ?_⟩) | ((with_reducible refine gate_callee (f := 25) rfl ?_); refine goesL_ (some 45) rfl rfl Try.func25 (by kernel_rfl) rfl #[.int .i64 ((wrap64 (a2 * 8)) / 8)] rfl (by (try simp only [List.map_toArray, List.map_cons, List.map_nil]); first | done | rfl | (simp only [List.length_drop, List.length_take]; rfl)) ?_; (with_reducible refine (cell_Small.calls ((wrap64 (a2 * 8)) / 8) t112 true _ A7.out).mono ?_); rintro e w' ⟨rfl, ⟨nd, rfl⟩⟩; refine ⟨_, rfl, ?_⟩) | ((with_reducible refine gate_callee (f := 40) rfl ?_); refine goesL_ (some 51) rfl rfl Try.func40 (by kernel_rfl) rfl #[.int .i64 (wrap64 (Int.tmod (IntKind.u64.wrap (a3)) 4096)), .int .i64 (wrap64 ((wrap64 (Int.tmod (IntKind.u64.wrap (a4)) 20)) + 1))] rfl (by (try simp only [List.map_toArray, List.map_cons, List.map_nil]); first | done | rfl | (simp only [List.length_drop, List.length_take]; rfl)) ?_; (with_reducible refine (cell_Functor.calls (wrap64 (Int.tmod (IntKind.u64.wrap (a3)) 4096)) (wrap64 ((wrap64 (Int.tmod (IntKind.u64.wrap (a4)) 20)) + 1)) t114 true _ A8.out).mono ?_); rintro e w' ⟨rfl, ⟨nd, rfl⟩⟩; refine ⟨_, rfl, ?_⟩) | ((with_reducible refine gate_callee (f := 42) rfl ?_); refine goesL_ (some 56) rfl rfl Try.func42 (by kernel_rfl) rfl #[.int .u64 t114] rfl (by (try simp only [List.map_toArray, List.map_cons, List.map_nil]); first | done | rfl | (simp only [List.length_drop, List.length_take]; rfl)) ?_; (with_reducible refine (cell_Parts.calls t114 t116 t117 _ A9.out).mono ?_); rintro e w' ⟨rfl, ⟨nd, rfl⟩⟩; refine ⟨_, rfl, ?_⟩) | (go_at_call 30; (with_reducible refine (cell_Tag.calls t110 t118 _ A11.out).mono ?_); rintro e w' ⟨rfl, ⟨nd, rfl⟩⟩) | (go_at_call 32; (with_reducible refine (cell_Value.calls t110 t119 _ A13.out).mono ?_); rintro e w' ⟨rfl, ⟨nd, rfl⟩⟩) | (go_at_call 26; (with_reducible refine (cell_Int.calls t112 t120 _ A16.out).mono ?_); rintro e w' ⟨rfl, ⟨nd, rfl⟩⟩) | (go_at_call 30; (with_reducible refine (cell_Tag.calls t114 t121 _ A19.out).mono ?_); rintro e w' ⟨rfl, ⟨nd, rfl⟩⟩))
                go_ret
                exact ⟨by first | rfl | (simp; done) | (simp [*]; done), by repeat (first | exact Drawn0.refl _ | apply Drawn0.step)⟩
            · replace c18 := Bool.eq_false_iff.mpr c18
              subst c18
              have H1 : (some false) = some r := by rw [if_neg (show ¬ (false = true) by decide)] at H; exact H
              clear H
              have H := H1
              clear H1
              obtain rfl := Option.some.inj H
              go_enter Try.func8, Try.ntmps8
              go_wp2_with (first | ((with_reducible refine gate_callee (f := 28) rfl ?_); refine goesL_ (some 40) rfl rfl Try.func28 (by kernel_rfl) rfl #[.int .i64 (wrap64 (Int.tmod (IntKind.u64.wrap (a0)) 7)), .int .u64 (Go.bits .and .u64 a1 2305843009213693951)] rfl (by (try simp only [List.map_toArray, List.map_cons, List.map_nil]); first | done | rfl | (simp only [List.length_drop, List.length_take]; rfl)) ?_; (with_reducible refine (cell_Make.calls (wrap64 (Int.tmod (IntKind.u64.wrap (a0)) 7)) (Go.bits .and .u64 a1 2305843009213693951) t110 true _ A6.out).mono ?_); rintro e w' ⟨rfl, ⟨nd, rfl⟩⟩; refine ⟨_, rfl, ?_⟩) | ((with_reducible refine gate_callee (f := 25) rfl ?_); refine goesL_ (some 45) rfl rfl Try.func25 (by kernel_rfl) rfl #[.int .i64 ((wrap64 (a2 * 8)) / 8)] rfl (by (try simp only [List.map_toArray, List.map_cons, List.map_nil]); first | done | rfl | (simp only [List.length_drop, List.length_take]; rfl)) ?_; (with_reducible refine (cell_Small.calls ((wrap64 (a2 * 8)) / 8) t112 true _ A7.out).mono ?_); rintro e w' ⟨rfl, ⟨nd, rfl⟩⟩; refine ⟨_, rfl, ?_⟩) | ((with_reducible refine gate_callee (f := 40) rfl ?_); refine goesL_ (some 51) rfl rfl Try.func40 (by kernel_rfl) rfl #[.int .i64 (wrap64 (Int.tmod (IntKind.u64.wrap (a3)) 4096)), .int .i64 (wrap64 ((wrap64 (Int.tmod (IntKind.u64.wrap (a4)) 20)) + 1))] rfl (by (try simp only [List.map_toArray, List.map_cons, List.map_nil]); first | done | rfl | (simp only [List.length_drop, List.length_take]; rfl)) ?_; (with_reducible refine (cell_Functor.calls (wrap64 (Int.tmod (IntKind.u64.wrap (a3)) 4096)) (wrap64 ((wrap64 (Int.tmod (IntKind.u64.wrap (a4)) 20)) + 1)) t114 false _ A8.out).mono ?_); rintro e w' ⟨rfl, ⟨nd, rfl⟩⟩; refine ⟨_, rfl, ?_⟩) | ((with_reducible refine gate_callee (f := 42) rfl ?_); refine goesL_ (some 56) rfl rfl Try.func42 (by kernel_rfl) rfl #[.int .u64 t114] rfl (by (try simp only [List.map_toArray, List.map_cons, List.map_nil]); first | done | rfl | (simp only [List.length_drop, List.length_take]; rfl)) ?_; (with_reducible refine (cell_Parts.calls t114 t116 t117 _ A9.out).mono ?_); rintro e w' ⟨rfl, ⟨nd, rfl⟩⟩; refine ⟨_, rfl, ?_⟩) | (go_at_call 30; (with_reducible refine (cell_Tag.calls t110 t118 _ A11.out).mono ?_); rintro e w' ⟨rfl, ⟨nd, rfl⟩⟩) | (go_at_call 32; (with_reducible refine (cell_Value.calls t110 t119 _ A13.out).mono ?_); rintro e w' ⟨rfl, ⟨nd, rfl⟩⟩) | (go_at_call 26; (with_reducible refine (cell_Int.calls t112 t120 _ A16.out).mono ?_); rintro e w' ⟨rfl, ⟨nd, rfl⟩⟩))
              go_ret
              exact ⟨by first | rfl | (simp; done) | (simp [*]; done), by repeat (first | exact Drawn0.refl _ | apply Drawn0.step)⟩
          · rw [if_neg c17] at H
            have c17b0 : (t120 == ((wrap64 (a2 * 8)) / 8)) = false := beq_eq_false_iff_ne.mpr c17
            have c17b1 : (t120 != ((wrap64 (a2 * 8)) / 8)) = true := bne_iff_ne.mpr c17
            obtain rfl := Option.some.inj H
            go_enter Try.func8, Try.ntmps8
            go_wp2_with (first | ((with_reducible refine gate_callee (f := 28) rfl ?_); refine goesL_ (some 40) rfl rfl Try.func28 (by kernel_rfl) rfl #[.int .i64 (wrap64 (Int.tmod (IntKind.u64.wrap (a0)) 7)), .int .u64 (Go.bits .and .u64 a1 2305843009213693951)] rfl (by (try simp only [List.map_toArray, List.map_cons, List.map_nil]); first | done | rfl | (simp only [List.length_drop, List.length_take]; rfl)) ?_; (with_reducible refine (cell_Make.calls (wrap64 (Int.tmod (IntKind.u64.wrap (a0)) 7)) (Go.bits .and .u64 a1 2305843009213693951) t110 true _ A6.out).mono ?_); rintro e w' ⟨rfl, ⟨nd, rfl⟩⟩; refine ⟨_, rfl, ?_⟩) | ((with_reducible refine gate_callee (f := 25) rfl ?_); refine goesL_ (some 45) rfl rfl Try.func25 (by kernel_rfl) rfl #[.int .i64 ((wrap64 (a2 * 8)) / 8)] rfl (by (try simp only [List.map_toArray, List.map_cons, List.map_nil]); first | done | rfl | (simp only [List.length_drop, List.length_take]; rfl)) ?_; (with_reducible refine (cell_Small.calls ((wrap64 (a2 * 8)) / 8) t112 true _ A7.out).mono ?_); rintro e w' ⟨rfl, ⟨nd, rfl⟩⟩; refine ⟨_, rfl, ?_⟩) | ((with_reducible refine gate_callee (f := 40) rfl ?_); refine goesL_ (some 51) rfl rfl Try.func40 (by kernel_rfl) rfl #[.int .i64 (wrap64 (Int.tmod (IntKind.u64.wrap (a3)) 4096)), .int .i64 (wrap64 ((wrap64 (Int.tmod (IntKind.u64.wrap (a4)) 20)) + 1))] rfl (by (try simp only [List.map_toArray, List.map_cons, List.map_nil]); first | done | rfl | (simp only [List.length_drop, List.length_take]; rfl)) ?_; (with_reducible refine (cell_Functor.calls (wrap64 (Int.tmod (IntKind.u64.wrap (a3)) 4096)) (wrap64 ((wrap64 (Int.tmod (IntKind.u64.wrap (a4)) 20)) + 1)) t114 t115 _ A8.out).mono ?_); rintro e w' ⟨rfl, ⟨nd, rfl⟩⟩; refine ⟨_, rfl, ?_⟩) | ((with_reducible refine gate_callee (f := 42) rfl ?_); refine goesL_ (some 56) rfl rfl Try.func42 (by kernel_rfl) rfl #[.int .u64 t114] rfl (by (try simp only [List.map_toArray, List.map_cons, List.map_nil]); first | done | rfl | (simp only [List.length_drop, List.length_take]; rfl)) ?_; (with_reducible refine (cell_Parts.calls t114 t116 t117 _ A9.out).mono ?_); rintro e w' ⟨rfl, ⟨nd, rfl⟩⟩; refine ⟨_, rfl, ?_⟩) | (go_at_call 30; (with_reducible refine (cell_Tag.calls t110 t118 _ A11.out).mono ?_); rintro e w' ⟨rfl, ⟨nd, rfl⟩⟩) | (go_at_call 32; (with_reducible refine (cell_Value.calls t110 t119 _ A13.out).mono ?_); rintro e w' ⟨rfl, ⟨nd, rfl⟩⟩) | (go_at_call 26; (with_reducible refine (cell_Int.calls t112 t120 _ A16.out).mono ?_); rintro e w' ⟨rfl, ⟨nd, rfl⟩⟩))
            go_ret
            exact ⟨by first | rfl | (simp; done) | (simp [*]; done), by repeat (first | exact Drawn0.refl _ | apply Drawn0.step)⟩
        · replace c15 := Bool.eq_false_iff.mpr c15
          subst c15
          have H1 : (some false) = some r := by rw [if_neg (show ¬ (false = true) by decide)] at H; exact H
          clear H
          have H := H1
          clear H1
          obtain rfl := Option.some.inj H
          go_enter Try.func8, Try.ntmps8
          go_wp2_with (first | ((with_reducible refine gate_callee (f := 28) rfl ?_); refine goesL_ (some 40) rfl rfl Try.func28 (by kernel_rfl) rfl #[.int .i64 (wrap64 (Int.tmod (IntKind.u64.wrap (a0)) 7)), .int .u64 (Go.bits .and .u64 a1 2305843009213693951)] rfl (by (try simp only [List.map_toArray, List.map_cons, List.map_nil]); first | done | rfl | (simp only [List.length_drop, List.length_take]; rfl)) ?_; (with_reducible refine (cell_Make.calls (wrap64 (Int.tmod (IntKind.u64.wrap (a0)) 7)) (Go.bits .and .u64 a1 2305843009213693951) t110 true _ A6.out).mono ?_); rintro e w' ⟨rfl, ⟨nd, rfl⟩⟩; refine ⟨_, rfl, ?_⟩) | ((with_reducible refine gate_callee (f := 25) rfl ?_); refine goesL_ (some 45) rfl rfl Try.func25 (by kernel_rfl) rfl #[.int .i64 ((wrap64 (a2 * 8)) / 8)] rfl (by (try simp only [List.map_toArray, List.map_cons, List.map_nil]); first | done | rfl | (simp only [List.length_drop, List.length_take]; rfl)) ?_; (with_reducible refine (cell_Small.calls ((wrap64 (a2 * 8)) / 8) t112 false _ A7.out).mono ?_); rintro e w' ⟨rfl, ⟨nd, rfl⟩⟩; refine ⟨_, rfl, ?_⟩) | ((with_reducible refine gate_callee (f := 40) rfl ?_); refine goesL_ (some 51) rfl rfl Try.func40 (by kernel_rfl) rfl #[.int .i64 (wrap64 (Int.tmod (IntKind.u64.wrap (a3)) 4096)), .int .i64 (wrap64 ((wrap64 (Int.tmod (IntKind.u64.wrap (a4)) 20)) + 1))] rfl (by (try simp only [List.map_toArray, List.map_cons, List.map_nil]); first | done | rfl | (simp only [List.length_drop, List.length_take]; rfl)) ?_; (with_reducible refine (cell_Functor.calls (wrap64 (Int.tmod (IntKind.u64.wrap (a3)) 4096)) (wrap64 ((wrap64 (Int.tmod (IntKind.u64.wrap (a4)) 20)) + 1)) t114 t115 _ A8.out).mono ?_); rintro e w' ⟨rfl, ⟨nd, rfl⟩⟩; refine ⟨_, rfl, ?_⟩) | ((with_reducible refine gate_callee (f := 42) rfl ?_); refine goesL_ (some 56) rfl rfl Try.func42 (by kernel_rfl) rfl #[.int .u64 t114] rfl (by (try simp only [List.map_toArray, List.map_cons, List.map_nil]); first | done | rfl | (simp only [List.length_drop, List.length_take]; rfl)) ?_; (with_reducible refine (cell_Parts.calls t114 t116 t117 _ A9.out).mono ?_); rintro e w' ⟨rfl, ⟨nd, rfl⟩⟩; refine ⟨_, rfl, ?_⟩) | (go_at_call 30; (with_reducible refine (cell_Tag.calls t110 t118 _ A11.out).mono ?_); rintro e w' ⟨rfl, ⟨nd, rfl⟩⟩) | (go_at_call 32; (with_reducible refine (cell_Value.calls t110 t119 _ A13.out).mono ?_); rintro e w' ⟨rfl, ⟨nd, rfl⟩⟩))
          go_ret
          exact ⟨by first | rfl | (simp; done) | (simp [*]; done), by repeat (first | exact Drawn0.refl _ | apply Drawn0.step)⟩
      · rw [if_neg c14] at H
        have c14b0 : (t119 == (Go.bits .and .u64 a1 2305843009213693951)) = false := beq_eq_false_iff_ne.mpr c14
        have c14b1 : (t119 != (Go.bits .and .u64 a1 2305843009213693951)) = true := bne_iff_ne.mpr c14
        obtain rfl := Option.some.inj H
        go_enter Try.func8, Try.ntmps8
        go_wp2_with (first | ((with_reducible refine gate_callee (f := 28) rfl ?_); refine goesL_ (some 40) rfl rfl Try.func28 (by kernel_rfl) rfl #[.int .i64 (wrap64 (Int.tmod (IntKind.u64.wrap (a0)) 7)), .int .u64 (Go.bits .and .u64 a1 2305843009213693951)] rfl (by (try simp only [List.map_toArray, List.map_cons, List.map_nil]); first | done | rfl | (simp only [List.length_drop, List.length_take]; rfl)) ?_; (with_reducible refine (cell_Make.calls (wrap64 (Int.tmod (IntKind.u64.wrap (a0)) 7)) (Go.bits .and .u64 a1 2305843009213693951) t110 true _ A6.out).mono ?_); rintro e w' ⟨rfl, ⟨nd, rfl⟩⟩; refine ⟨_, rfl, ?_⟩) | ((with_reducible refine gate_callee (f := 25) rfl ?_); refine goesL_ (some 45) rfl rfl Try.func25 (by kernel_rfl) rfl #[.int .i64 ((wrap64 (a2 * 8)) / 8)] rfl (by (try simp only [List.map_toArray, List.map_cons, List.map_nil]); first | done | rfl | (simp only [List.length_drop, List.length_take]; rfl)) ?_; (with_reducible refine (cell_Small.calls ((wrap64 (a2 * 8)) / 8) t112 t113 _ A7.out).mono ?_); rintro e w' ⟨rfl, ⟨nd, rfl⟩⟩; refine ⟨_, rfl, ?_⟩) | ((with_reducible refine gate_callee (f := 40) rfl ?_); refine goesL_ (some 51) rfl rfl Try.func40 (by kernel_rfl) rfl #[.int .i64 (wrap64 (Int.tmod (IntKind.u64.wrap (a3)) 4096)), .int .i64 (wrap64 ((wrap64 (Int.tmod (IntKind.u64.wrap (a4)) 20)) + 1))] rfl (by (try simp only [List.map_toArray, List.map_cons, List.map_nil]); first | done | rfl | (simp only [List.length_drop, List.length_take]; rfl)) ?_; (with_reducible refine (cell_Functor.calls (wrap64 (Int.tmod (IntKind.u64.wrap (a3)) 4096)) (wrap64 ((wrap64 (Int.tmod (IntKind.u64.wrap (a4)) 20)) + 1)) t114 t115 _ A8.out).mono ?_); rintro e w' ⟨rfl, ⟨nd, rfl⟩⟩; refine ⟨_, rfl, ?_⟩) | ((with_reducible refine gate_callee (f := 42) rfl ?_); refine goesL_ (some 56) rfl rfl Try.func42 (by kernel_rfl) rfl #[.int .u64 t114] rfl (by (try simp only [List.map_toArray, List.map_cons, List.map_nil]); first | done | rfl | (simp only [List.length_drop, List.length_take]; rfl)) ?_; (with_reducible refine (cell_Parts.calls t114 t116 t117 _ A9.out).mono ?_); rintro e w' ⟨rfl, ⟨nd, rfl⟩⟩; refine ⟨_, rfl, ?_⟩) | (go_at_call 30; (with_reducible refine (cell_Tag.calls t110 t118 _ A11.out).mono ?_); rintro e w' ⟨rfl, ⟨nd, rfl⟩⟩) | (go_at_call 32; (with_reducible refine (cell_Value.calls t110 t119 _ A13.out).mono ?_); rintro e w' ⟨rfl, ⟨nd, rfl⟩⟩))
        go_ret
        exact ⟨by first | rfl | (simp; done) | (simp [*]; done), by repeat (first | exact Drawn0.refl _ | apply Drawn0.step)⟩
    · rw [if_neg c12] at H
      have c12b0 : (t118 == (wrap64 (Int.tmod (IntKind.u64.wrap (a0)) 7))) = false := beq_eq_false_iff_ne.mpr c12
      have c12b1 : (t118 != (wrap64 (Int.tmod (IntKind.u64.wrap (a0)) 7))) = true := bne_iff_ne.mpr c12
      obtain rfl := Option.some.inj H
      go_enter Try.func8, Try.ntmps8
      go_wp2_with (first | ((with_reducible refine gate_callee (f := 28) rfl ?_); refine goesL_ (some 40) rfl rfl Try.func28 (by kernel_rfl) rfl #[.int .i64 (wrap64 (Int.tmod (IntKind.u64.wrap (a0)) 7)), .int .u64 (Go.bits .and .u64 a1 2305843009213693951)] rfl (by (try simp only [List.map_toArray, List.map_cons, List.map_nil]); first | done | rfl | (simp only [List.length_drop, List.length_take]; rfl)) ?_; (with_reducible refine (cell_Make.calls (wrap64 (Int.tmod (IntKind.u64.wrap (a0)) 7)) (Go.bits .and .u64 a1 2305843009213693951) t110 true _ A6.out).mono ?_); rintro e w' ⟨rfl, ⟨nd, rfl⟩⟩; refine ⟨_, rfl, ?_⟩) | ((with_reducible refine gate_callee (f := 25) rfl ?_); refine goesL_ (some 45) rfl rfl Try.func25 (by kernel_rfl) rfl #[.int .i64 ((wrap64 (a2 * 8)) / 8)] rfl (by (try simp only [List.map_toArray, List.map_cons, List.map_nil]); first | done | rfl | (simp only [List.length_drop, List.length_take]; rfl)) ?_; (with_reducible refine (cell_Small.calls ((wrap64 (a2 * 8)) / 8) t112 t113 _ A7.out).mono ?_); rintro e w' ⟨rfl, ⟨nd, rfl⟩⟩; refine ⟨_, rfl, ?_⟩) | ((with_reducible refine gate_callee (f := 40) rfl ?_); refine goesL_ (some 51) rfl rfl Try.func40 (by kernel_rfl) rfl #[.int .i64 (wrap64 (Int.tmod (IntKind.u64.wrap (a3)) 4096)), .int .i64 (wrap64 ((wrap64 (Int.tmod (IntKind.u64.wrap (a4)) 20)) + 1))] rfl (by (try simp only [List.map_toArray, List.map_cons, List.map_nil]); first | done | rfl | (simp only [List.length_drop, List.length_take]; rfl)) ?_; (with_reducible refine (cell_Functor.calls (wrap64 (Int.tmod (IntKind.u64.wrap (a3)) 4096)) (wrap64 ((wrap64 (Int.tmod (IntKind.u64.wrap (a4)) 20)) + 1)) t114 t115 _ A8.out).mono ?_); rintro e w' ⟨rfl, ⟨nd, rfl⟩⟩; refine ⟨_, rfl, ?_⟩) | ((with_reducible refine gate_callee (f := 42) rfl ?_); refine goesL_ (some 56) rfl rfl Try.func42 (by kernel_rfl) rfl #[.int .u64 t114] rfl (by (try simp only [List.map_toArray, List.map_cons, List.map_nil]); first | done | rfl | (simp only [List.length_drop, List.length_take]; rfl)) ?_; (with_reducible refine (cell_Parts.calls t114 t116 t117 _ A9.out).mono ?_); rintro e w' ⟨rfl, ⟨nd, rfl⟩⟩; refine ⟨_, rfl, ?_⟩) | (go_at_call 30; (with_reducible refine (cell_Tag.calls t110 t118 _ A11.out).mono ?_); rintro e w' ⟨rfl, ⟨nd, rfl⟩⟩))
      go_ret
      exact ⟨by first | rfl | (simp; done) | (simp [*]; done), by repeat (first | exact Drawn0.refl _ | apply Drawn0.step)⟩
  · replace c10 := Bool.eq_false_iff.mpr c10
    subst c10
    have H1 : (some false) = some r := by rw [if_neg (show ¬ (false = true) by decide)] at H; exact H
    clear H
    have H := H1
    clear H1
    obtain rfl := Option.some.inj H
    go_enter Try.func8, Try.ntmps8
    go_wp2_with (first | ((with_reducible refine gate_callee (f := 28) rfl ?_); refine goesL_ (some 40) rfl rfl Try.func28 (by kernel_rfl) rfl #[.int .i64 (wrap64 (Int.tmod (IntKind.u64.wrap (a0)) 7)), .int .u64 (Go.bits .and .u64 a1 2305843009213693951)] rfl (by (try simp only [List.map_toArray, List.map_cons, List.map_nil]); first | done | rfl | (simp only [List.length_drop, List.length_take]; rfl)) ?_; (with_reducible refine (cell_Make.calls (wrap64 (Int.tmod (IntKind.u64.wrap (a0)) 7)) (Go.bits .and .u64 a1 2305843009213693951) t110 false _ A6.out).mono ?_); rintro e w' ⟨rfl, ⟨nd, rfl⟩⟩; refine ⟨_, rfl, ?_⟩) | ((with_reducible refine gate_callee (f := 25) rfl ?_); refine goesL_ (some 45) rfl rfl Try.func25 (by kernel_rfl) rfl #[.int .i64 ((wrap64 (a2 * 8)) / 8)] rfl (by (try simp only [List.map_toArray, List.map_cons, List.map_nil]); first | done | rfl | (simp only [List.length_drop, List.length_take]; rfl)) ?_; (with_reducible refine (cell_Small.calls ((wrap64 (a2 * 8)) / 8) t112 t113 _ A7.out).mono ?_); rintro e w' ⟨rfl, ⟨nd, rfl⟩⟩; refine ⟨_, rfl, ?_⟩) | ((with_reducible refine gate_callee (f := 40) rfl ?_); refine goesL_ (some 51) rfl rfl Try.func40 (by kernel_rfl) rfl #[.int .i64 (wrap64 (Int.tmod (IntKind.u64.wrap (a3)) 4096)), .int .i64 (wrap64 ((wrap64 (Int.tmod (IntKind.u64.wrap (a4)) 20)) + 1))] rfl (by (try simp only [List.map_toArray, List.map_cons, List.map_nil]); first | done | rfl | (simp only [List.length_drop, List.length_take]; rfl)) ?_; (with_reducible refine (cell_Functor.calls (wrap64 (Int.tmod (IntKind.u64.wrap (a3)) 4096)) (wrap64 ((wrap64 (Int.tmod (IntKind.u64.wrap (a4)) 20)) + 1)) t114 t115 _ A8.out).mono ?_); rintro e w' ⟨rfl, ⟨nd, rfl⟩⟩; refine ⟨_, rfl, ?_⟩) | ((with_reducible refine gate_callee (f := 42) rfl ?_); refine goesL_ (some 56) rfl rfl Try.func42 (by kernel_rfl) rfl #[.int .u64 t114] rfl (by (try simp only [List.map_toArray, List.map_cons, List.map_nil]); first | done | rfl | (simp only [List.length_drop, List.length_take]; rfl)) ?_; (with_reducible refine (cell_Parts.calls t114 t116 t117 _ A9.out).mono ?_); rintro e w' ⟨rfl, ⟨nd, rfl⟩⟩; refine ⟨_, rfl, ?_⟩))
    go_ret
    exact ⟨by first | rfl | (simp; done) | (simp [*]; done), by repeat (first | exact Drawn0.refl _ | apply Drawn0.step)⟩

/-- THE ONE PURE STATEMENT of elenchuslaw4_CellBack: yours. -/
def elenchuslaw4_CellBack.Pure : Prop := ∀ (a0 : Int) (a1 : Int) (a2 : Int) (a3 : Int) (a4 : Int), (Lit.int .i64 a0).wf = true → (Lit.int .u64 a1).wf = true → (Lit.int .i64 a2).wf = true → (Lit.int .i64 a3).wf = true → (Lit.int .i64 a4).wf = true → elenchuslaw4_CellBack.f a0 a1 a2 a3 a4 = some true
theorem elenchuslaw4_CellBack.walk (P : elenchuslaw4_CellBack.Pure) (a0 : Int) (a1 : Int) (a2 : Int) (a3 : Int) (a4 : Int) (w : World) (w0 : (Lit.int .i64 a0).wf = true) (w1 : (Lit.int .u64 a1).wf = true) (w2 : (Lit.int .i64 a2).wf = true) (w3 : (Lit.int .i64 a3).wf = true) (w4 : (Lit.int .i64 a4).wf = true) :
    Calls Try.prog 8 #[.int .i64 a0, .int .u64 a1, .int .i64 a2, .int .i64 a3, .int .i64 a4] w fun e w' => e = .returned (.bool true) ∧ Below w.heap.size w w' := by
  have h := P a0 a1 a2 a3 a4 w0 w1 w2 w3 w4
  refine (elenchuslaw4_CellBack.calls a0 a1 a2 a3 a4 true w h).mono ?_
  rintro e w' ⟨rfl, hd⟩
  exact ⟨rfl, hd.below⟩

end Go.Proofs.Ytaahamgjhlnjnaa.PCellBack
