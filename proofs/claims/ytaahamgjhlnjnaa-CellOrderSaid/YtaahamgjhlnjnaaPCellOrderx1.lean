-- PRINTED BY print.sh 35421559b90ae4d0a3588c463048766b98c2df88dd9212a6774a882060cdf62d: not written by this session
import Derived.Test.YtaahamgjhlnjnaaPCellOrderx0
namespace Go.Proofs.Ytaahamgjhlnjnaa.PCellOrder
open Go.RowKit Go.Proofs.YtaahamgjhlnjnaaW.PrintWords Go.Proofs.YtaahamgjhlnjnaaW.PrintLast Go.Proofs.YtaahamgjhlnjnaaW.PrintMore
attribute [local go_sem] max2_int min2_int max_two min_two max_three min_three max_four min_four   -- for this text's walks alone
set_option linter.unusedVariables false
set_option linter.unusedSimpArgs false

/-! ### cell_Small: function 25 -/
def cell_Small.f (a0 : Int) : Option (Int × Bool) := if a0 < (-1152921504606846976) then (some (0, false)) else (if a0 > 1152921504606846975 then (some (0, false)) else (some (Go.bits .or .u64 (IntKind.u64.wrap ((IntKind.u64.wrap (a0)) * 8)) 3, true)))
set_option maxHeartbeats 8000000 in
set_option maxRecDepth 100000 in
theorem cell_Small.calls (a0 : Int) (r1 : Int) (r2 : Bool) (w : World) (h : cell_Small.f a0 = some (r1, r2)) :
    Calls Try.prog 25 #[.int .i64 a0] w fun e w' => e = .returned (.tuple #[.int .u64 r1, .bool r2]) ∧ Drawn0 w w' := by
  have H : (if a0 < (-1152921504606846976) then (some (0, false)) else (if a0 > 1152921504606846975 then (some (0, false)) else (some (Go.bits .or .u64 (IntKind.u64.wrap ((IntKind.u64.wrap (a0)) * 8)) 3, true)))) = some (r1, r2) := h
  clear h
  by_cases c2 : a0 < (-1152921504606846976)
  · rw [if_pos c2] at H
    have c2b0 : decide (a0 < (-1152921504606846976)) = true := decide_eq_true c2
    clear c2
    simp only [Option.some.injEq, Prod.mk.injEq] at H
    obtain ⟨rfl, rfl⟩ := H
    go_enter Try.func25, Try.ntmps25
    go_wp2
    go_ret2
    exact ⟨by first | rfl | (simp; done) | (simp [*]; done), by repeat (first | exact Drawn0.refl _ | apply Drawn0.step)⟩
  · rw [if_neg c2] at H
    have c2b0 : decide (a0 < (-1152921504606846976)) = false := decide_eq_false c2
    clear c2
    by_cases c3 : a0 > 1152921504606846975
    · rw [if_pos c3] at H
      have c3b0 : decide (1152921504606846975 < a0) = true := decide_eq_true c3
      clear c3
      simp only [Option.some.injEq, Prod.mk.injEq] at H
      obtain ⟨rfl, rfl⟩ := H
      go_enter Try.func25, Try.ntmps25
      go_wp2
      go_ret2
      exact ⟨by first | rfl | (simp; done) | (simp [*]; done), by repeat (first | exact Drawn0.refl _ | apply Drawn0.step)⟩
    · rw [if_neg c3] at H
      have c3b0 : decide (1152921504606846975 < a0) = false := decide_eq_false c3
      clear c3
      simp only [Option.some.injEq, Prod.mk.injEq] at H
      obtain ⟨rfl, rfl⟩ := H
      go_enter Try.func25, Try.ntmps25
      go_wp2
      go_ret2
      exact ⟨by first | rfl | (simp; done) | (simp [*]; done), by repeat (first | exact Drawn0.refl _ | apply Drawn0.step)⟩

/-! ### cell_Int: function 26 -/
def cell_Int.f (a0 : Int) : Option (Int) := some ((wrap64 (a0)) / 8)
set_option maxHeartbeats 8000000 in
set_option maxRecDepth 100000 in
theorem cell_Int.calls (a0 : Int) (r : Int) (w : World) (h : cell_Int.f a0 = some r) :
    Calls Try.prog 26 #[.int .u64 a0] w fun e w' => e = .returned (.int .i64 r) ∧ Drawn0 w w' := by
  have H : (some ((wrap64 (a0)) / 8)) = some r := h
  clear h
  obtain rfl := Option.some.inj H
  go_enter Try.func26, Try.ntmps26
  go_wp2
  go_ret
  exact ⟨by first | rfl | (simp; done) | (simp [*]; done), by repeat (first | exact Drawn0.refl _ | apply Drawn0.step)⟩

/-! ### cell_Tag: function 30 -/
def cell_Tag.f (a0 : Int) : Option (Int) := some (wrap64 (Go.bits .and .u64 a0 7))
set_option maxHeartbeats 8000000 in
set_option maxRecDepth 100000 in
theorem cell_Tag.calls (a0 : Int) (r : Int) (w : World) (h : cell_Tag.f a0 = some r) :
    Calls Try.prog 30 #[.int .u64 a0] w fun e w' => e = .returned (.int .i64 r) ∧ Drawn0 w w' := by
  have H : (some (wrap64 (Go.bits .and .u64 a0 7))) = some r := h
  clear h
  obtain rfl := Option.some.inj H
  go_enter Try.func30, Try.ntmps30
  go_wp2
  go_ret
  exact ⟨by first | rfl | (simp; done) | (simp [*]; done), by repeat (first | exact Drawn0.refl _ | apply Drawn0.step)⟩

/-! ### cell_Value: function 32 -/
def cell_Value.f (a0 : Int) : Option (Int) := some (a0 / 8)
set_option maxHeartbeats 8000000 in
set_option maxRecDepth 100000 in
theorem cell_Value.calls (a0 : Int) (r : Int) (w : World) (h : cell_Value.f a0 = some r) :
    Calls Try.prog 32 #[.int .u64 a0] w fun e w' => e = .returned (.int .u64 r) ∧ Drawn0 w w' := by
  have H : (some (a0 / 8)) = some r := h
  clear h
  obtain rfl := Option.some.inj H
  go_enter Try.func32, Try.ntmps32
  go_wp2
  go_ret
  exact ⟨by first | rfl | (simp; done) | (simp [*]; done), by repeat (first | exact Drawn0.refl _ | apply Drawn0.step)⟩

/-! ### elenchuslaw4_awake: function 27 -/
def elenchuslaw4_awake.f  : Option (Bool) := (cell_Small.f (-1)).bind fun bt101 => (if bt101.2 = true then ((cell_Tag.f bt101.1).bind fun t103 => (if t103 = 3 then ((cell_Value.f bt101.1).bind fun t104 => (if t104 = 2305843009213693951 then ((cell_Int.f bt101.1).bind fun t105 => (some (t105 == (-1)))) else (some false))) else (some false))) else (some false))
set_option maxHeartbeats 8000000 in
set_option maxRecDepth 100000 in
theorem elenchuslaw4_awake.calls  (r : Bool) (w : World) (h : elenchuslaw4_awake.f  = some r) :
    Calls Try.prog 27 #[] w fun e w' => e = .returned (.bool r) ∧ Drawn0 w w' := by
  have H : ((cell_Small.f (-1)).bind fun bt101 => (if bt101.2 = true then ((cell_Tag.f bt101.1).bind fun t103 => (if t103 = 3 then ((cell_Value.f bt101.1).bind fun t104 => (if t104 = 2305843009213693951 then ((cell_Int.f bt101.1).bind fun t105 => (some (t105 == (-1)))) else (some false))) else (some false))) else (some false))) = some r := h
  clear h
  replace H := Option.bind_eq_some_iff.mp H
  obtain ⟨⟨t101, t102⟩, A10, H⟩ := H
  replace H : (if t102 = true then ((cell_Tag.f t101).bind fun t103 => (if t103 = 3 then ((cell_Value.f t101).bind fun t104 => (if t104 = 2305843009213693951 then ((cell_Int.f t101).bind fun t105 => (some (t105 == (-1)))) else (some false))) else (some false))) else (some false)) = some r := H
  have A1 := Aside0.mk A10
  clear A10
  by_cases c2 : t102 = true
  · subst c2
    have H1 : ((cell_Tag.f t101).bind fun t103 => (if t103 = 3 then ((cell_Value.f t101).bind fun t104 => (if t104 = 2305843009213693951 then ((cell_Int.f t101).bind fun t105 => (some (t105 == (-1)))) else (some false))) else (some false))) = some r := by rw [if_pos rfl] at H; exact H
    clear H
    have H := H1
    clear H1
    replace H := Option.bind_eq_some_iff.mp H
    obtain ⟨t103, A30, H⟩ := H
    replace H : (if t103 = 3 then ((cell_Value.f t101).bind fun t104 => (if t104 = 2305843009213693951 then ((cell_Int.f t101).bind fun t105 => (some (t105 == (-1)))) else (some false))) else (some false)) = some r := H
    have A3 := Aside0.mk A30
    clear A30
    by_cases c4 : t103 = 3
    · rw [if_pos c4] at H
      have c4b0 : (t103 == 3) = true := beq_iff_eq.mpr c4
      have c4b1 : (t103 != 3) = false := bne_eq_false_iff_eq.mpr c4
      clear c4
      replace H := Option.bind_eq_some_iff.mp H
      obtain ⟨t104, A50, H⟩ := H
      replace H : (if t104 = 2305843009213693951 then ((cell_Int.f t101).bind fun t105 => (some (t105 == (-1)))) else (some false)) = some r := H
      have A5 := Aside0.mk A50
      clear A50
      by_cases c6 : t104 = 2305843009213693951
      · rw [if_pos c6] at H
        have c6b0 : (t104 == 2305843009213693951) = true := beq_iff_eq.mpr c6
        have c6b1 : (t104 != 2305843009213693951) = false := bne_eq_false_iff_eq.mpr c6
        clear c6
        replace H := Option.bind_eq_some_iff.mp H
        obtain ⟨t105, A70, H⟩ := H
        replace H : (some (t105 == (-1))) = some r := H
        have A7 := Aside0.mk A70
        clear A70
        obtain rfl := Option.some.inj H
        go_enter Try.func27, Try.ntmps27
        go_wp2_with (first | ((with_reducible refine gate_callee (f := 25) rfl ?_); refine goesL_ (some 4) rfl rfl Try.func25 (by kernel_rfl) rfl #[.int .i64 (-1)] rfl (by (try simp only [List.map_toArray, List.map_cons, List.map_nil]); first | done | rfl | (simp only [List.length_drop, List.length_take]; rfl)) ?_; (with_reducible refine (cell_Small.calls (-1) t101 true _ A1.out).mono ?_); rintro e w' ⟨rfl, ⟨nd, rfl⟩⟩; refine ⟨_, rfl, ?_⟩) | (go_at_call 30; (with_reducible refine (cell_Tag.calls t101 t103 _ A3.out).mono ?_); rintro e w' ⟨rfl, ⟨nd, rfl⟩⟩) | (go_at_call 32; (with_reducible refine (cell_Value.calls t101 t104 _ A5.out).mono ?_); rintro e w' ⟨rfl, ⟨nd, rfl⟩⟩) | (go_at_call 26; (with_reducible refine (cell_Int.calls t101 t105 _ A7.out).mono ?_); rintro e w' ⟨rfl, ⟨nd, rfl⟩⟩))
        go_ret
        exact ⟨by first | rfl | (simp; done) | (simp [*]; done), by repeat (first | exact Drawn0.refl _ | apply Drawn0.step)⟩
      · rw [if_neg c6] at H
        have c6b0 : (t104 == 2305843009213693951) = false := beq_eq_false_iff_ne.mpr c6
        have c6b1 : (t104 != 2305843009213693951) = true := bne_iff_ne.mpr c6
        obtain rfl := Option.some.inj H
        go_enter Try.func27, Try.ntmps27
        go_wp2_with (first | ((with_reducible refine gate_callee (f := 25) rfl ?_); refine goesL_ (some 4) rfl rfl Try.func25 (by kernel_rfl) rfl #[.int .i64 (-1)] rfl (by (try simp only [List.map_toArray, List.map_cons, List.map_nil]); first | done | rfl | (simp only [List.length_drop, List.length_take]; rfl)) ?_; (with_reducible refine (cell_Small.calls (-1) t101 true _ A1.out).mono ?_); rintro e w' ⟨rfl, ⟨nd, rfl⟩⟩; refine ⟨_, rfl, ?_⟩) | (go_at_call 30; (with_reducible refine (cell_Tag.calls t101 t103 _ A3.out).mono ?_); rintro e w' ⟨rfl, ⟨nd, rfl⟩⟩) | (go_at_call 32; (with_reducible refine (cell_Value.calls t101 t104 _ A5.out).mono ?_); rintro e w' ⟨rfl, ⟨nd, rfl⟩⟩))
        go_ret
        exact ⟨by first | rfl | (simp; done) | (simp [*]; done), by repeat (first | exact Drawn0.refl _ | apply Drawn0.step)⟩
    · rw [if_neg c4] at H
      have c4b0 : (t103 == 3) = false := beq_eq_false_iff_ne.mpr c4
      have c4b1 : (t103 != 3) = true := bne_iff_ne.mpr c4
      obtain rfl := Option.some.inj H
      go_enter Try.func27, Try.ntmps27
      go_wp2_with (first | ((with_reducible refine gate_callee (f := 25) rfl ?_); refine goesL_ (some 4) rfl rfl Try.func25 (by kernel_rfl) rfl #[.int .i64 (-1)] rfl (by (try simp only [List.map_toArray, List.map_cons, List.map_nil]); first | done | rfl | (simp only [List.length_drop, List.length_take]; rfl)) ?_; (with_reducible refine (cell_Small.calls (-1) t101 true _ A1.out).mono ?_); rintro e w' ⟨rfl, ⟨nd, rfl⟩⟩; refine ⟨_, rfl, ?_⟩) | (go_at_call 30; (with_reducible refine (cell_Tag.calls t101 t103 _ A3.out).mono ?_); rintro e w' ⟨rfl, ⟨nd, rfl⟩⟩))
      go_ret
      exact ⟨by first | rfl | (simp; done) | (simp [*]; done), by repeat (first | exact Drawn0.refl _ | apply Drawn0.step)⟩
  · replace c2 := Bool.eq_false_iff.mpr c2
    subst c2
    have H1 : (some false) = some r := by rw [if_neg (show ¬ (false = true) by decide)] at H; exact H
    clear H
    have H := H1
    clear H1
    obtain rfl := Option.some.inj H
    go_enter Try.func27, Try.ntmps27
    go_wp2_with (first | ((with_reducible refine gate_callee (f := 25) rfl ?_); refine goesL_ (some 4) rfl rfl Try.func25 (by kernel_rfl) rfl #[.int .i64 (-1)] rfl (by (try simp only [List.map_toArray, List.map_cons, List.map_nil]); first | done | rfl | (simp only [List.length_drop, List.length_take]; rfl)) ?_; (with_reducible refine (cell_Small.calls (-1) t101 false _ A1.out).mono ?_); rintro e w' ⟨rfl, ⟨nd, rfl⟩⟩; refine ⟨_, rfl, ?_⟩))
    go_ret
    exact ⟨by first | rfl | (simp; done) | (simp [*]; done), by repeat (first | exact Drawn0.refl _ | apply Drawn0.step)⟩

/-! ### elenchuslaw4_CellOrder: function 3 -/
def elenchuslaw4_CellOrder.f (a0 : Int) (a1 : Int) (a2 : Int) : Option (Bool) := (cell_Small.f (a0 / 16)).bind fun bt106 => ((cell_Small.f (a1 / 16)).bind fun bt108 => ((cell_Small.f (wrap64 ((wrap64 (1152921504606846976 + (wrap64 (Int.tmod (IntKind.u64.wrap (a2)) 5)))) - 2))).bind fun bt110 => ((cell_Small.f (wrap64 ((wrap64 ((-1152921504606846976) + (wrap64 (Int.tmod (IntKind.u64.wrap (a2)) 5)))) - 2))).bind fun bt112 => (if bt106.2 = true then (if bt108.2 = true then ((cell_Int.f bt106.1).bind fun t114 => ((cell_Int.f bt108.1).bind fun t115 => (if ((decide ((a0 / 16) < (a1 / 16))) == (decide (t114 < t115))) = true then (if (bt110.2 == (decide ((Int.tmod (IntKind.u64.wrap (a2)) 5) < 2))) = true then (if (bt112.2 == (decide ((Int.tmod (IntKind.u64.wrap (a2)) 5) ≥ 2))) = true then ((elenchuslaw4_awake.f).bind fun t116 => (some t116)) else (some false)) else (some false)) else (some false)))) else (some false)) else (some false)))))
set_option maxHeartbeats 8000000 in
set_option maxRecDepth 100000 in
theorem elenchuslaw4_CellOrder.calls (a0 : Int) (a1 : Int) (a2 : Int) (r : Bool) (w : World) (h : elenchuslaw4_CellOrder.f a0 a1 a2 = some r) :
    Calls Try.prog 3 #[.int .i64 a0, .int .i64 a1, .int .i64 a2] w fun e w' => e = .returned (.bool r) ∧ Drawn0 w w' := by
  have H : ((cell_Small.f (a0 / 16)).bind fun bt106 => ((cell_Small.f (a1 / 16)).bind fun bt108 => ((cell_Small.f (wrap64 ((wrap64 (1152921504606846976 + (wrap64 (Int.tmod (IntKind.u64.wrap (a2)) 5)))) - 2))).bind fun bt110 => ((cell_Small.f (wrap64 ((wrap64 ((-1152921504606846976) + (wrap64 (Int.tmod (IntKind.u64.wrap (a2)) 5)))) - 2))).bind fun bt112 => (if bt106.2 = true then (if bt108.2 = true then ((cell_Int.f bt106.1).bind fun t114 => ((cell_Int.f bt108.1).bind fun t115 => (if ((decide ((a0 / 16) < (a1 / 16))) == (decide (t114 < t115))) = true then (if (bt110.2 == (decide ((Int.tmod (IntKind.u64.wrap (a2)) 5) < 2))) = true then (if (bt112.2 == (decide ((Int.tmod (IntKind.u64.wrap (a2)) 5) ≥ 2))) = true then ((elenchuslaw4_awake.f).bind fun t116 => (some t116)) else (some false)) else (some false)) else (some false)))) else (some false)) else (some false)))))) = some r := h
  clear h
  replace H := Option.bind_eq_some_iff.mp H
  obtain ⟨⟨t106, t107⟩, A40, H⟩ := H
  replace H : ((cell_Small.f (a1 / 16)).bind fun bt108 => ((cell_Small.f (wrap64 ((wrap64 (1152921504606846976 + (wrap64 (Int.tmod (IntKind.u64.wrap (a2)) 5)))) - 2))).bind fun bt110 => ((cell_Small.f (wrap64 ((wrap64 ((-1152921504606846976) + (wrap64 (Int.tmod (IntKind.u64.wrap (a2)) 5)))) - 2))).bind fun bt112 => (if t107 = true then (if bt108.2 = true then ((cell_Int.f t106).bind fun t114 => ((cell_Int.f bt108.1).bind fun t115 => (if ((decide ((a0 / 16) < (a1 / 16))) == (decide (t114 < t115))) = true then (if (bt110.2 == (decide ((Int.tmod (IntKind.u64.wrap (a2)) 5) < 2))) = true then (if (bt112.2 == (decide ((Int.tmod (IntKind.u64.wrap (a2)) 5) ≥ 2))) = true then ((elenchuslaw4_awake.f).bind fun t116 => (some t116)) else (some false)) else (some false)) else (some false)))) else (some false)) else (some false))))) = some r := H
  have A4 := Aside0.mk A40
  clear A40
  replace H := Option.bind_eq_some_iff.mp H
  obtain ⟨⟨t108, t109⟩, A50, H⟩ := H
  replace H : ((cell_Small.f (wrap64 ((wrap64 (1152921504606846976 + (wrap64 (Int.tmod (IntKind.u64.wrap (a2)) 5)))) - 2))).bind fun bt110 => ((cell_Small.f (wrap64 ((wrap64 ((-1152921504606846976) + (wrap64 (Int.tmod (IntKind.u64.wrap (a2)) 5)))) - 2))).bind fun bt112 => (if t107 = true then (if t109 = true then ((cell_Int.f t106).bind fun t114 => ((cell_Int.f t108).bind fun t115 => (if ((decide ((a0 / 16) < (a1 / 16))) == (decide (t114 < t115))) = true then (if (bt110.2 == (decide ((Int.tmod (IntKind.u64.wrap (a2)) 5) < 2))) = true then (if (bt112.2 == (decide ((Int.tmod (IntKind.u64.wrap (a2)) 5) ≥ 2))) = true then ((elenchuslaw4_awake.f).bind fun t116 => (some t116)) else (some false)) else (some false)) else (some false)))) else (some false)) else (some false)))) = some r := H
  have A5 := Aside0.mk A50
  clear A50
  replace H := Option.bind_eq_some_iff.mp H
  obtain ⟨⟨t110, t111⟩, A60, H⟩ := H
  replace H : ((cell_Small.f (wrap64 ((wrap64 ((-1152921504606846976) + (wrap64 (Int.tmod (IntKind.u64.wrap (a2)) 5)))) - 2))).bind fun bt112 => (if t107 = true then (if t109 = true then ((cell_Int.f t106).bind fun t114 => ((cell_Int.f t108).bind fun t115 => (if ((decide ((a0 / 16) < (a1 / 16))) == (decide (t114 < t115))) = true then (if (t111 == (decide ((Int.tmod (IntKind.u64.wrap (a2)) 5) < 2))) = true then (if (bt112.2 == (decide ((Int.tmod (IntKind.u64.wrap (a2)) 5) ≥ 2))) = true then ((elenchuslaw4_awake.f).bind fun t116 => (some t116)) else (some false)) else (some false)) else (some false)))) else (some false)) else (some false))) = some r := H
  have A6 := Aside0.mk A60
  clear A60
  replace H := Option.bind_eq_some_iff.mp H
  obtain ⟨⟨t112, t113⟩, A70, H⟩ := H
  replace H : (if t107 = true then (if t109 = true then ((cell_Int.f t106).bind fun t114 => ((cell_Int.f t108).bind fun t115 => (if ((decide ((a0 / 16) < (a1 / 16))) == (decide (t114 < t115))) = true then (if (t111 == (decide ((Int.tmod (IntKind.u64.wrap (a2)) 5) < 2))) = true then (if (t113 == (decide ((Int.tmod (IntKind.u64.wrap (a2)) 5) ≥ 2))) = true then ((elenchuslaw4_awake.f).bind fun t116 => (some t116)) else (some false)) else (some false)) else (some false)))) else (some false)) else (some false)) = some r := H
  have A7 := Aside0.mk A70
  clear A70
  by_cases c8 : t107 = true
  · subst c8
    have H1 : (if t109 = true then ((cell_Int.f t106).bind fun t114 => ((cell_Int.f t108).bind fun t115 => (if ((decide ((a0 / 16) < (a1 / 16))) == (decide (t114 < t115))) = true then (if (t111 == (decide ((Int.tmod (IntKind.u64.wrap (a2)) 5) < 2))) = true then (if (t113 == (decide ((Int.tmod (IntKind.u64.wrap (a2)) 5) ≥ 2))) = true then ((elenchuslaw4_awake.f).bind fun t116 => (some t116)) else (some false)) else (some false)) else (some false)))) else (some false)) = some r := by rw [if_pos rfl] at H; exact H
    clear H
    have H := H1
    clear H1
    by_cases c9 : t109 = true
    · subst c9
      have H1 : ((cell_Int.f t106).bind fun t114 => ((cell_Int.f t108).bind fun t115 => (if ((decide ((a0 / 16) < (a1 / 16))) == (decide (t114 < t115))) = true then (if (t111 == (decide ((Int.tmod (IntKind.u64.wrap (a2)) 5) < 2))) = true then (if (t113 == (decide ((Int.tmod (IntKind.u64.wrap (a2)) 5) ≥ 2))) = true then ((elenchuslaw4_awake.f).bind fun t116 => (some t116)) else (some false)) else (some false)) else (some false)))) = some r := by rw [if_pos rfl] at H; exact H
      clear H
      have H := H1
      clear H1
      replace H := Option.bind_eq_some_iff.mp H
      obtain ⟨t114, A100, H⟩ := H
      replace H : ((cell_Int.f t108).bind fun t115 => (if ((decide ((a0 / 16) < (a1 / 16))) == (decide (t114 < t115))) = true then (if (t111 == (decide ((Int.tmod (IntKind.u64.wrap (a2)) 5) < 2))) = true then (if (t113 == (decide ((Int.tmod (IntKind.u64.wrap (a2)) 5) ≥ 2))) = true then ((elenchuslaw4_awake.f).bind fun t116 => (some t116)) else (some false)) else (some false)) else (some false))) = some r := H
      have A10 := Aside0.mk A100
      clear A100
      replace H := Option.bind_eq_some_iff.mp H
      obtain ⟨t115, A110, H⟩ := H
      replace H : (if ((decide ((a0 / 16) < (a1 / 16))) == (decide (t114 < t115))) = true then (if (t111 == (decide ((Int.tmod (IntKind.u64.wrap (a2)) 5) < 2))) = true then (if (t113 == (decide ((Int.tmod (IntKind.u64.wrap (a2)) 5) ≥ 2))) = true then ((elenchuslaw4_awake.f).bind fun t116 => (some t116)) else (some false)) else (some false)) else (some false)) = some r := H
      have A11 := Aside0.mk A110
      clear A110
      by_cases c12 : ((decide ((a0 / 16) < (a1 / 16))) == (decide (t114 < t115))) = true
      · rw [if_pos c12] at H
        have c12b0 : ((decide ((a0 / 16) < (a1 / 16))) == (decide (t114 < t115))) = true := c12
        (try (have c12b1 : decide ((decide ((a0 / 16) < (a1 / 16))) = (decide (t114 < t115))) = true := by simpa using c12))
        (try (have c12b2 : ((decide ((a0 / 16) < (a1 / 16))) == (decide (t114 < t115))) = true := by simpa using c12))
        clear c12
        by_cases c13 : (t111 == (decide ((Int.tmod (IntKind.u64.wrap (a2)) 5) < 2))) = true
        · rw [if_pos c13] at H
          have c13b0 : (t111 == (decide ((Int.tmod (IntKind.u64.wrap (a2)) 5) < 2))) = true := c13
          (try (have c13b1 : decide (t111 = (decide ((Int.tmod (IntKind.u64.wrap (a2)) 5) < 2))) = true := by simpa using c13))
          (try (have c13b2 : (t111 == (decide ((Int.tmod (IntKind.u64.wrap (a2)) 5) < 2))) = true := by simpa using c13))
          clear c13
          by_cases c14 : (t113 == (decide ((Int.tmod (IntKind.u64.wrap (a2)) 5) ≥ 2))) = true
          · rw [if_pos c14] at H
            have c14b0 : (t113 == (decide ((Int.tmod (IntKind.u64.wrap (a2)) 5) ≥ 2))) = true := c14
            (try (have c14b1 : decide (t113 = (decide ((Int.tmod (IntKind.u64.wrap (a2)) 5) ≥ 2))) = true := by simpa using c14))
            (try (have c14b2 : (t113 == (decide ((Int.tmod (IntKind.u64.wrap (a2)) 5) ≥ 2))) = true := by simpa using c14))
            clear c14
            replace H := Option.bind_eq_some_iff.mp H
            obtain ⟨t116, A150, H⟩ := H
            replace H : (some t116) = some r := H
            have A15 := Aside0.mk A150
            clear A150
            obtain rfl := Option.some.inj H
            go_enter Try.func3, Try.ntmps3
            go_wp2_with (first | ((with_reducible refine gate_callee (f := 25) rfl ?_); refine goesL_ (some 21) rfl rfl Try.func25 (by kernel_rfl) rfl #[.int .i64 (a0 / 16)] rfl (by (try simp only [List.map_toArray, List.map_cons, List.map_nil]); first | done | rfl | (simp only [List.length_drop, List.length_take]; rfl)) ?_; (with_reducible refine (cell_Small.calls (a0 / 16) t106 true _ A4.out).mono ?_); rintro e w' ⟨rfl, ⟨nd, rfl⟩⟩; refine ⟨_, rfl, ?_⟩) | ((with_reducible refine gate_callee (f := 25) rfl ?_); refine goesL_ (some 26) rfl rfl Try.func25 (by kernel_rfl) rfl #[.int .i64 (a1 / 16)] rfl (by (try simp only [List.map_toArray, List.map_cons, List.map_nil]); first | done | rfl | (simp only [List.length_drop, List.length_take]; rfl)) ?_; (with_reducible refine (cell_Small.calls (a1 / 16) t108 true _ A5.out).mono ?_); rintro e w' ⟨rfl, ⟨nd, rfl⟩⟩; refine ⟨_, rfl, ?_⟩) | ((with_reducible refine gate_callee (f := 25) rfl ?_); refine goesL_ (some 36) rfl rfl Try.func25 (by kernel_rfl) rfl #[.int .i64 (wrap64 ((wrap64 (1152921504606846976 + (wrap64 (Int.tmod (IntKind.u64.wrap (a2)) 5)))) - 2))] rfl (by (try simp only [List.map_toArray, List.map_cons, List.map_nil]); first | done | rfl | (simp only [List.length_drop, List.length_take]; rfl)) ?_; (with_reducible refine (cell_Small.calls (wrap64 ((wrap64 (1152921504606846976 + (wrap64 (Int.tmod (IntKind.u64.wrap (a2)) 5)))) - 2)) t110 t111 _ A6.out).mono ?_); rintro e w' ⟨rfl, ⟨nd, rfl⟩⟩; refine ⟨_, rfl, ?_⟩) | ((with_reducible refine gate_callee (f := 25) rfl ?_); refine goesL_ (some 46) rfl rfl Try.func25 (by kernel_rfl) rfl #[.int .i64 (wrap64 ((wrap64 ((-1152921504606846976) + (wrap64 (Int.tmod (IntKind.u64.wrap (a2)) 5)))) - 2))] rfl (by (try simp only [List.map_toArray, List.map_cons, List.map_nil]); first | done | rfl | (simp only [List.length_drop, List.length_take]; rfl)) ?_; (with_reducible refine (cell_Small.calls (wrap64 ((wrap64 ((-1152921504606846976) + (wrap64 (Int.tmod (IntKind.u64.wrap (a2)) 5)))) - 2)) t112 t113 _ A7.out).mono ?_); rintro e w' ⟨rfl, ⟨nd, rfl⟩⟩; refine ⟨_, rfl, ?_⟩) | (go_at_call 26; (with_reducible refine (cell_Int.calls t106 t114 _ A10.out).mono ?_); rintro e w' ⟨rfl, ⟨nd, rfl⟩⟩) | (go_at_call 26; (with_reducible refine (cell_Int.calls t108 t115 _ A11.out).mono ?_); rintro e w' ⟨rfl, ⟨nd, rfl⟩⟩) | (go_at_call 27; (with_reducible refine (elenchuslaw4_awake.calls  t116 _ A15.out).mono ?_); rintro e w' ⟨rfl, ⟨nd, rfl⟩⟩))
            go_ret
            exact ⟨by first | rfl | (simp; done) | (simp [*]; done), by repeat (first | exact Drawn0.refl _ | apply Drawn0.step)⟩
          · rw [if_neg c14] at H
            have c14b0 : (t113 == (decide ((Int.tmod (IntKind.u64.wrap (a2)) 5) ≥ 2))) = false := by simpa using c14
            (try (have c14b1 : decide (t113 = (decide ((Int.tmod (IntKind.u64.wrap (a2)) 5) ≥ 2))) = false := by simpa using c14))
            (try (have c14b2 : (t113 == (decide ((Int.tmod (IntKind.u64.wrap (a2)) 5) ≥ 2))) = false := by simpa using c14))
            (try (have c14b3 : ¬ (t113 = (decide ((Int.tmod (IntKind.u64.wrap (a2)) 5) ≥ 2))) := by simpa using c14))
            clear c14
            obtain rfl := Option.some.inj H
            go_enter Try.func3, Try.ntmps3
            go_wp2_with (first | ((with_reducible refine gate_callee (f := 25) rfl ?_); refine goesL_ (some 21) rfl rfl Try.func25 (by kernel_rfl) rfl #[.int .i64 (a0 / 16)] rfl (by (try simp only [List.map_toArray, List.map_cons, List.map_nil]); first | done | rfl | (simp only [List.length_drop, List.length_take]; rfl)) ?_; (with_reducible refine (cell_Small.calls (a0 / 16) t106 true _ A4.out).mono ?_); rintro e w' ⟨rfl, ⟨nd, rfl⟩⟩; refine ⟨_, rfl, ?_⟩) | ((with_reducible refine gate_callee (f := 25) rfl ?_); refine goesL_ (some 26) rfl rfl Try.func25 (by kernel_rfl) rfl #[.int .i64 (a1 / 16)] rfl (by (try simp only [List.map_toArray, List.map_cons, List.map_nil]); first | done | rfl | (simp only [List.length_drop, List.length_take]; rfl)) ?_; (with_reducible refine (cell_Small.calls (a1 / 16) t108 true _ A5.out).mono ?_); rintro e w' ⟨rfl, ⟨nd, rfl⟩⟩; refine ⟨_, rfl, ?_⟩) | ((with_reducible refine gate_callee (f := 25) rfl ?_); refine goesL_ (some 36) rfl rfl Try.func25 (by kernel_rfl) rfl #[.int .i64 (wrap64 ((wrap64 (1152921504606846976 + (wrap64 (Int.tmod (IntKind.u64.wrap (a2)) 5)))) - 2))] rfl (by (try simp only [List.map_toArray, List.map_cons, List.map_nil]); first | done | rfl | (simp only [List.length_drop, List.length_take]; rfl)) ?_; (with_reducible refine (cell_Small.calls (wrap64 ((wrap64 (1152921504606846976 + (wrap64 (Int.tmod (IntKind.u64.wrap (a2)) 5)))) - 2)) t110 t111 _ A6.out).mono ?_); rintro e w' ⟨rfl, ⟨nd, rfl⟩⟩; refine ⟨_, rfl, ?_⟩) | ((with_reducible refine gate_callee (f := 25) rfl ?_); refine goesL_ (some 46) rfl rfl Try.func25 (by kernel_rfl) rfl #[.int .i64 (wrap64 ((wrap64 ((-1152921504606846976) + (wrap64 (Int.tmod (IntKind.u64.wrap (a2)) 5)))) - 2))] rfl (by (try simp only [List.map_toArray, List.map_cons, List.map_nil]); first | done | rfl | (simp only [List.length_drop, List.length_take]; rfl)) ?_; (with_reducible refine (cell_Small.calls (wrap64 ((wrap64 ((-1152921504606846976) + (wrap64 (Int.tmod (IntKind.u64.wrap (a2)) 5)))) - 2)) t112 t113 _ A7.out).mono ?_); rintro e w' ⟨rfl, ⟨nd, rfl⟩⟩; refine ⟨_, rfl, ?_⟩) | (go_at_call 26; (with_reducible refine (cell_Int.calls t106 t114 _ A10.out).mono ?_); rintro e w' ⟨rfl, ⟨nd, rfl⟩⟩) | (go_at_call 26; (with_reducible refine (cell_Int.calls t108 t115 _ A11.out).mono ?_); rintro e w' ⟨rfl, ⟨nd, rfl⟩⟩))
            go_ret
            exact ⟨by first | rfl | (simp; done) | (simp [*]; done), by repeat (first | exact Drawn0.refl _ | apply Drawn0.step)⟩
        · rw [if_neg c13] at H
          have c13b0 : (t111 == (decide ((Int.tmod (IntKind.u64.wrap (a2)) 5) < 2))) = false := by simpa using c13
          (try (have c13b1 : decide (t111 = (decide ((Int.tmod (IntKind.u64.wrap (a2)) 5) < 2))) = false := by simpa using c13))
          (try (have c13b2 : (t111 == (decide ((Int.tmod (IntKind.u64.wrap (a2)) 5) < 2))) = false := by simpa using c13))
          (try (have c13b3 : ¬ (t111 = (decide ((Int.tmod (IntKind.u64.wrap (a2)) 5) < 2))) := by simpa using c13))
          clear c13
          obtain rfl := Option.some.inj H
          go_enter Try.func3, Try.ntmps3
          go_wp2_with (first | ((with_reducible refine gate_callee (f := 25) rfl ?_); refine goesL_ (some 21) rfl rfl Try.func25 (by kernel_rfl) rfl #[.int .i64 (a0 / 16)] rfl (by (try simp only [List.map_toArray, List.map_cons, List.map_nil]); first | done | rfl | (simp only [List.length_drop, List.length_take]; rfl)) ?_; (with_reducible refine (cell_Small.calls (a0 / 16) t106 true _ A4.out).mono ?_); rintro e w' ⟨rfl, ⟨nd, rfl⟩⟩; refine ⟨_, rfl, ?_⟩) | ((with_reducible refine gate_callee (f := 25) rfl ?_); refine goesL_ (some 26) rfl rfl Try.func25 (by kernel_rfl) rfl #[.int .i64 (a1 / 16)] rfl (by (try simp only [List.map_toArray, List.map_cons, List.map_nil]); first | done | rfl | (simp only [List.length_drop, List.length_take]; rfl)) ?_; (with_reducible refine (cell_Small.calls (a1 / 16) t108 true _ A5.out).mono ?_); rintro e w' ⟨rfl, ⟨nd, rfl⟩⟩; refine ⟨_, rfl, ?_⟩) | ((with_reducible refine gate_callee (f := 25) rfl ?_); refine goesL_ (some 36) rfl rfl Try.func25 (by kernel_rfl) rfl #[.int .i64 (wrap64 ((wrap64 (1152921504606846976 + (wrap64 (Int.tmod (IntKind.u64.wrap (a2)) 5)))) - 2))] rfl (by (try simp only [List.map_toArray, List.map_cons, List.map_nil]); first | done | rfl | (simp only [List.length_drop, List.length_take]; rfl)) ?_; (with_reducible refine (cell_Small.calls (wrap64 ((wrap64 (1152921504606846976 + (wrap64 (Int.tmod (IntKind.u64.wrap (a2)) 5)))) - 2)) t110 t111 _ A6.out).mono ?_); rintro e w' ⟨rfl, ⟨nd, rfl⟩⟩; refine ⟨_, rfl, ?_⟩) | ((with_reducible refine gate_callee (f := 25) rfl ?_); refine goesL_ (some 46) rfl rfl Try.func25 (by kernel_rfl) rfl #[.int .i64 (wrap64 ((wrap64 ((-1152921504606846976) + (wrap64 (Int.tmod (IntKind.u64.wrap (a2)) 5)))) - 2))] rfl (by (try simp only [List.map_toArray, List.map_cons, List.map_nil]); first | done | rfl | (simp only [List.length_drop, List.length_take]; rfl)) ?_; (with_reducible refine (cell_Small.calls (wrap64 ((wrap64 ((-1152921504606846976) + (wrap64 (Int.tmod (IntKind.u64.wrap (a2)) 5)))) - 2)) t112 t113 _ A7.out).mono ?_); rintro e w' ⟨rfl, ⟨nd, rfl⟩⟩; refine ⟨_, rfl, ?_⟩) | (go_at_call 26; (with_reducible refine (cell_Int.calls t106 t114 _ A10.out).mono ?_); rintro e w' ⟨rfl, ⟨nd, rfl⟩⟩) | (go_at_call 26; (with_reducible refine (cell_Int.calls t108 t115 _ A11.out).mono ?_); rintro e w' ⟨rfl, ⟨nd, rfl⟩⟩))
          go_ret
          exact ⟨by first | rfl | (simp; done) | (simp [*]; done), by repeat (first | exact Drawn0.refl _ | apply Drawn0.step)⟩
      · rw [if_neg c12] at H
        have c12b0 : ((decide ((a0 / 16) < (a1 / 16))) == (decide (t114 < t115))) = false := by simpa using c12
        (try (have c12b1 : decide ((decide ((a0 / 16) < (a1 / 16))) = (decide (t114 < t115))) = false := by simpa using c12))
        (try (have c12b2 : ((decide ((a0 / 16) < (a1 / 16))) == (decide (t114 < t115))) = false := by simpa using c12))
        (try (have c12b3 : ¬ ((decide ((a0 / 16) < (a1 / 16))) = (decide (t114 < t115))) := by simpa using c12))
        clear c12
        obtain rfl := Option.some.inj H
        go_enter Try.func3, Try.ntmps3
        go_wp2_with (first | ((with_reducible refine gate_callee (f := 25) rfl ?_); refine goesL_ (some 21) rfl rfl Try.func25 (by kernel_rfl) rfl #[.int .i64 (a0 / 16)] rfl (by (try simp only [List.map_toArray, List.map_cons, List.map_nil]); first | done | rfl | (simp only [List.length_drop, List.length_take]; rfl)) ?_; (with_reducible refine (cell_Small.calls (a0 / 16) t106 true _ A4.out).mono ?_); rintro e w' ⟨rfl, ⟨nd, rfl⟩⟩; refine ⟨_, rfl, ?_⟩) | ((with_reducible refine gate_callee (f := 25) rfl ?_); refine goesL_ (some 26) rfl rfl Try.func25 (by kernel_rfl) rfl #[.int .i64 (a1 / 16)] rfl (by (try simp only [List.map_toArray, List.map_cons, List.map_nil]); first | done | rfl | (simp only [List.length_drop, List.length_take]; rfl)) ?_; (with_reducible refine (cell_Small.calls (a1 / 16) t108 true _ A5.out).mono ?_); rintro e w' ⟨rfl, ⟨nd, rfl⟩⟩; refine ⟨_, rfl, ?_⟩) | ((with_reducible refine gate_callee (f := 25) rfl ?_); refine goesL_ (some 36) rfl rfl Try.func25 (by kernel_rfl) rfl #[.int .i64 (wrap64 ((wrap64 (1152921504606846976 + (wrap64 (Int.tmod (IntKind.u64.wrap (a2)) 5)))) - 2))] rfl (by (try simp only [List.map_toArray, List.map_cons, List.map_nil]); first | done | rfl | (simp only [List.length_drop, List.length_take]; rfl)) ?_; (with_reducible refine (cell_Small.calls (wrap64 ((wrap64 (1152921504606846976 + (wrap64 (Int.tmod (IntKind.u64.wrap (a2)) 5)))) - 2)) t110 t111 _ A6.out).mono ?_); rintro e w' ⟨rfl, ⟨nd, rfl⟩⟩; refine ⟨_, rfl, ?_⟩) | ((with_reducible refine gate_callee (f := 25) rfl ?_); refine goesL_ (some 46) rfl rfl Try.func25 (by kernel_rfl) rfl #[.int .i64 (wrap64 ((wrap64 ((-1152921504606846976) + (wrap64 (Int.tmod (IntKind.u64.wrap (a2)) 5)))) - 2))] rfl (by (try simp only [List.map_toArray, List.map_cons, List.map_nil]); first | done | rfl | (simp only [List.length_drop, List.length_take]; rfl)) ?_; (with_reducible refine (cell_Small.calls (wrap64 ((wrap64 ((-1152921504606846976) + (wrap64 (Int.tmod (IntKind.u64.wrap (a2)) 5)))) - 2)) t112 t113 _ A7.out).mono ?_); rintro e w' ⟨rfl, ⟨nd, rfl⟩⟩; refine ⟨_, rfl, ?_⟩) | (go_at_call 26; (with_reducible refine (cell_Int.calls t106 t114 _ A10.out).mono ?_); rintro e w' ⟨rfl, ⟨nd, rfl⟩⟩) | (go_at_call 26; (with_reducible refine (cell_Int.calls t108 t115 _ A11.out).mono ?_); rintro e w' ⟨rfl, ⟨nd, rfl⟩⟩))
        go_ret
        exact ⟨by first | rfl | (simp; done) | (simp [*]; done), by repeat (first | exact Drawn0.refl _ | apply Drawn0.step)⟩
    · replace c9 := Bool.eq_false_iff.mpr c9
      subst c9
      have H1 : (some false) = some r := by rw [if_neg (show ¬ (false = true) by decide)] at H; exact H
      clear H
      have H := H1
      clear H1
      obtain rfl := Option.some.inj H
      go_enter Try.func3, Try.ntmps3
      go_wp2_with (first | ((with_reducible refine gate_callee (f := 25) rfl ?_); refine goesL_ (some 21) rfl rfl Try.func25 (by kernel_rfl) rfl #[.int .i64 (a0 / 16)] rfl (by (try simp only [List.map_toArray, List.map_cons, List.map_nil]); first | done | rfl | (simp only [List.length_drop, List.length_take]; rfl)) ?_; (with_reducible refine (cell_Small.calls (a0 / 16) t106 true _ A4.out).mono ?_); rintro e w' ⟨rfl, ⟨nd, rfl⟩⟩; refine ⟨_, rfl, ?_⟩) | ((with_reducible refine gate_callee (f := 25) rfl ?_); refine goesL_ (some 26) rfl rfl Try.func25 (by kernel_rfl) rfl #[.int .i64 (a1 / 16)] rfl (by (try simp only [List.map_toArray, List.map_cons, List.map_nil]); first | done | rfl | (simp only [List.length_drop, List.length_take]; rfl)) ?_; (with_reducible refine (cell_Small.calls (a1 / 16) t108 false _ A5.out).mono ?_); rintro e w' ⟨rfl, ⟨nd, rfl⟩⟩; refine ⟨_, rfl, ?_⟩) | ((with_reducible refine gate_callee (f := 25) rfl ?_); refine goesL_ (some 36) rfl rfl Try.func25 (by kernel_rfl) rfl #[.int .i64 (wrap64 ((wrap64 (1152921504606846976 + (wrap64 (Int.tmod (IntKind.u64.wrap (a2)) 5)))) - 2))] rfl (by (try simp only [List.map_toArray, List.map_cons, List.map_nil]); first | done | rfl | (simp only [List.length_drop, List.length_take]; rfl)) ?_; (with_reducible refine (cell_Small.calls (wrap64 ((wrap64 (1152921504606846976 + (wrap64 (Int.tmod (IntKind.u64.wrap (a2)) 5)))) - 2)) t110 t111 _ A6.out).mono ?_); rintro e w' ⟨rfl, ⟨nd, rfl⟩⟩; refine ⟨_, rfl, ?_⟩) | ((with_reducible refine gate_callee (f := 25) rfl ?_); refine goesL_ (some 46) rfl rfl Try.func25 (by kernel_rfl) rfl #[.int .i64 (wrap64 ((wrap64 ((-1152921504606846976) + (wrap64 (Int.tmod (IntKind.u64.wrap (a2)) 5)))) - 2))] rfl (by (try simp only [List.map_toArray, List.map_cons, List.map_nil]); first | done | rfl | (simp only [List.length_drop, List.length_take]; rfl)) ?_; (with_reducible refine (cell_Small.calls (wrap64 ((wrap64 ((-1152921504606846976) + (wrap64 (Int.tmod (IntKind.u64.wrap (a2)) 5)))) - 2)) t112 t113 _ A7.out).mono ?_); rintro e w' ⟨rfl, ⟨nd, rfl⟩⟩; refine ⟨_, rfl, ?_⟩))
      go_ret
      exact ⟨by first | rfl | (simp; done) | (simp [*]; done), by repeat (first | exact Drawn0.refl _ | apply Drawn0.step)⟩
  · replace c8 := Bool.eq_false_iff.mpr c8
    subst c8
    have H1 : (some false) = some r := by rw [if_neg (show ¬ (false = true) by decide)] at H; exact H
    clear H
    have H := H1
    clear H1
    obtain rfl := Option.some.inj H
    go_enter Try.func3, Try.ntmps3
    go_wp2_with (first | ((with_reducible refine gate_callee (f := 25) rfl ?_); refine goesL_ (some 21) rfl rfl Try.func25 (by kernel_rfl) rfl #[.int .i64 (a0 / 16)] rfl (by (try simp only [List.map_toArray, List.map_cons, List.map_nil]); first | done | rfl | (simp only [List.length_drop, List.length_take]; rfl)) ?_; (with_reducible refine (cell_Small.calls (a0 / 16) t106 false _ A4.out).mono ?_); rintro e w' ⟨rfl, ⟨nd, rfl⟩⟩; refine ⟨_, rfl, ?_⟩) | ((with_reducible refine gate_callee (f := 25) rfl ?_); refine goesL_ (some 26) rfl rfl Try.func25 (by kernel_rfl) rfl #[.int .i64 (a1 / 16)] rfl (by (try simp only [List.map_toArray, List.map_cons, List.map_nil]); first | done | rfl | (simp only [List.length_drop, List.length_take]; rfl)) ?_; (with_reducible refine (cell_Small.calls (a1 / 16) t108 t109 _ A5.out).mono ?_); rintro e w' ⟨rfl, ⟨nd, rfl⟩⟩; refine ⟨_, rfl, ?_⟩) | ((with_reducible refine gate_callee (f := 25) rfl ?_); refine goesL_ (some 36) rfl rfl Try.func25 (by kernel_rfl) rfl #[.int .i64 (wrap64 ((wrap64 (1152921504606846976 + (wrap64 (Int.tmod (IntKind.u64.wrap (a2)) 5)))) - 2))] rfl (by (try simp only [List.map_toArray, List.map_cons, List.map_nil]); first | done | rfl | (simp only [List.length_drop, List.length_take]; rfl)) ?_; (with_reducible refine (cell_Small.calls (wrap64 ((wrap64 (1152921504606846976 + (wrap64 (Int.tmod (IntKind.u64.wrap (a2)) 5)))) - 2)) t110 t111 _ A6.out).mono ?_); rintro e w' ⟨rfl, ⟨nd, rfl⟩⟩; refine ⟨_, rfl, ?_⟩) | ((with_reducible refine gate_callee (f := 25) rfl ?_); refine goesL_ (some 46) rfl rfl Try.func25 (by kernel_rfl) rfl #[.int .i64 (wrap64 ((wrap64 ((-1152921504606846976) + (wrap64 (Int.tmod (IntKind.u64.wrap (a2)) 5)))) - 2))] rfl (by (try simp only [List.map_toArray, List.map_cons, List.map_nil]); first | done | rfl | (simp only [List.length_drop, List.length_take]; rfl)) ?_; (with_reducible refine (cell_Small.calls (wrap64 ((wrap64 ((-1152921504606846976) + (wrap64 (Int.tmod (IntKind.u64.wrap (a2)) 5)))) - 2)) t112 t113 _ A7.out).mono ?_); rintro e w' ⟨rfl, ⟨nd, rfl⟩⟩; refine ⟨_, rfl, ?_⟩))
    go_ret
    exact ⟨by first | rfl | (simp; done) | (simp [*]; done), by repeat (first | exact Drawn0.refl _ | apply Drawn0.step)⟩

/-- THE ONE PURE STATEMENT of elenchuslaw4_CellOrder: yours. -/
def elenchuslaw4_CellOrder.Pure : Prop := ∀ (a0 : Int) (a1 : Int) (a2 : Int), (Lit.int .i64 a0).wf = true → (Lit.int .i64 a1).wf = true → (Lit.int .i64 a2).wf = true → elenchuslaw4_CellOrder.f a0 a1 a2 = some true
theorem elenchuslaw4_CellOrder.walk (P : elenchuslaw4_CellOrder.Pure) (a0 : Int) (a1 : Int) (a2 : Int) (w : World) (w0 : (Lit.int .i64 a0).wf = true) (w1 : (Lit.int .i64 a1).wf = true) (w2 : (Lit.int .i64 a2).wf = true) :
    Calls Try.prog 3 #[.int .i64 a0, .int .i64 a1, .int .i64 a2] w fun e w' => e = .returned (.bool true) ∧ Below w.heap.size w w' := by
  have h := P a0 a1 a2 w0 w1 w2
  refine (elenchuslaw4_CellOrder.calls a0 a1 a2 true w h).mono ?_
  rintro e w' ⟨rfl, hd⟩
  exact ⟨rfl, hd.below⟩

end Go.Proofs.Ytaahamgjhlnjnaa.PCellOrder
