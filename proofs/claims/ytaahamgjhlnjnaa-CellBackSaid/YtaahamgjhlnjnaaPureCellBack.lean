/- A cell made of a tag and a value, of a small number, of a functor tells them again, for every number brought into its range. No condition. -/
import Derived.Test.YtaahamgjhlnjnaaPCellBackx1
import Derived.Test.YtaahamgjhlnjnaaBits
namespace Go.Proofs.Ytaahamgjhlnjnaa.Pure
open Go.RowKit Go.Proofs.Ytaahamgjhlnjnaa.PCellBack Go.Proofs.YtaahamgjhlnjnaaW.PrintWords Go.Proofs.YtaahamgjhlnjnaaW.PrintLast

theorem small_in (n : Int) (h0 : -1152921504606846976 ≤ n) (h1 : n < 1152921504606846976) : cell_Small.f n = some ((n % 2305843009213693952) * 8 + 3, true) := by
  unfold cell_Small.f
  rw [if_neg (by omega), if_neg (by omega), wrap_u64 n, wrap_u64, or3 _ _ (by omega) (by omega) (by omega) (by omega) (by omega)]
  have e : n % 18446744073709551616 * 8 % 18446744073709551616 = (n % 2305843009213693952) * 8 := by omega
  rw [e]
theorem small_out (n : Int) (h : n < -1152921504606846976 ∨ 1152921504606846976 ≤ n) : cell_Small.f n = some (0, false) := by
  unfold cell_Small.f
  by_cases h0 : n < -1152921504606846976
  · rw [if_pos h0]
  · rw [if_neg h0, if_pos (by omega)]
theorem int_f (c : Int) : cell_Int.f c = some (wrap64 c / 8) := rfl
theorem tag_f (c : Int) (h0 : 0 ≤ c) (h1 : c < 18446744073709551616) : cell_Tag.f c = some (c % 8) := by
  unfold cell_Tag.f
  rw [and7 c h0 h1, wrap64_in _ (by omega) (by omega)]
theorem awake_f : elenchuslaw4_awake.f = some true := by
  unfold elenchuslaw4_awake.f
  rw [small_in (-1) (by omega) (by omega)]
  simp only [Option.bind_some]
  rw [tag_f _ (by omega) (by omega)]
  decide +kernel
theorem make_in (t n : Int) (h0 : 0 ≤ t) (h1 : t ≤ 6) (h2 : 0 ≤ n) (h3 : n < 2305843009213693952) : cell_Make.f t n = some (n * 8 + t, true) := by
  unfold cell_Make.f
  rw [if_neg (by omega), if_neg (by omega), if_neg (by omega), wraps_u64' _ (by omega) (by omega), wraps_u64' _ (by omega) (by omega), or3 _ _ (by omega) (by omega) (by omega) (by omega) (by omega)]
theorem make_out (t n : Int) (h : ¬ (0 ≤ t ∧ t ≤ 6 ∧ n < 2305843009213693952)) : cell_Make.f t n = some (0, false) := by
  unfold cell_Make.f
  by_cases h0 : t < 0
  · rw [if_pos h0]
  · by_cases h1 : t > 6
    · rw [if_neg h0, if_pos h1]
    · rw [if_neg h0, if_neg h1, if_pos (by omega)]

theorem functor_in (a n : Int) (h0 : 0 ≤ a) (h1 : a < 4096) (h2 : 1 ≤ n) (h3 : n ≤ 20) : cell_Functor.f a n = some ((a * 256 + n) * 8 + 6, true) := by
  unfold cell_Functor.f
  rw [if_neg (by omega), if_neg (by omega), if_neg (by omega), if_neg (by omega), wrap64_in (a * 256) (by omega) (by omega), wrap64_in (a * 256 + n) (by omega) (by omega),
    wraps_u64' _ (by omega) (by omega), make_in 6 _ (by omega) (by omega) (by omega) (by omega)]
  rfl
theorem functor_out (a n : Int) (h : ¬ (0 ≤ a ∧ a < 4096 ∧ 1 ≤ n ∧ n ≤ 20)) : cell_Functor.f a n = some (0, false) := by
  unfold cell_Functor.f
  by_cases h0 : a < 0
  · rw [if_pos h0]
  by_cases h1 : a ≥ 4096
  · rw [if_neg h0, if_pos h1]
  by_cases h2 : n < 1
  · rw [if_neg h0, if_neg h1, if_pos h2]
  · rw [if_neg h0, if_neg h1, if_neg h2, if_pos (by omega)]
theorem parts_f (c : Int) (h0 : 0 ≤ c) (h1 : c < 18446744073709551616) : cell_Parts.f c = some (if c % 8 = 6 then (c / 8 / 256, c / 8 % 256) else (0, 0)) := by
  unfold cell_Parts.f cell_Value.f
  rw [tag_f c h0 h1]
  simp only [Option.bind_some]
  by_cases h : c % 8 = 6
  · rw [if_pos h, if_pos h, tdiv_pos _ _ (by omega), tmod_pos _ _ (by omega), wraps_u64' _ (by omega) (by omega), wrap64_in _ (by omega) (by omega), wrap64_in _ (by omega) (by omega)]
  · rw [if_neg h, if_neg h]
theorem int_back (i : Int) (h0 : -1152921504606846976 ≤ i) (h1 : i < 1152921504606846976) : cell_Int.f (i % 2305843009213693952 * 8 + 3) = some i := by
  have e : wrap64 (i % 2305843009213693952 * 8 + 3) / 8 = i := by unfold wrap64; omega
  rw [int_f, e]

theorem parts_of (a n : Int) (h0 : 0 ≤ a) (h1 : a < 4096) (h2 : 1 ≤ n) (h3 : n ≤ 20) : cell_Parts.f ((a * 256 + n) * 8 + 6) = some (a, n) := by
  rw [parts_f _ (by omega) (by omega)]
  have q3 : ((a * 256 + n) * 8 + 6) % 8 = 6 := by omega
  have q4 : ((a * 256 + n) * 8 + 6) / 8 / 256 = a := by omega
  have q5 : ((a * 256 + n) * 8 + 6) / 8 % 256 = n := by omega
  rw [q3, q4, q5]
  rfl
theorem tag_of (n t : Int) (h0 : 0 ≤ n) (h1 : n < 2305843009213693952) (h2 : 0 ≤ t) (h3 : t ≤ 6) : cell_Tag.f (n * 8 + t) = some t := by
  rw [tag_f _ (by omega) (by omega)]
  have q : (n * 8 + t) % 8 = t := by omega
  rw [q]
theorem value_of (n t : Int) (h2 : 0 ≤ t) (h3 : t ≤ 6) : cell_Value.f (n * 8 + t) = some n := by
  have q : (n * 8 + t) / 8 = n := by omega
  unfold cell_Value.f
  rw [q]

theorem bs {α β : Type} {x : Option α} {a : α} {f : α → Option β} {r : Option β} (h : x = some a) (h2 : f a = r) : x.bind f = r := by rw [h]; exact h2
theorem bi {c : Prop} [Decidable c] {a b r : Option Bool} (h : c) (h2 : a = r) : (if c then a else b) = r := by rw [if_pos h]; exact h2

/-- The law behind its arguments' reductions. -/
theorem back_of (t n i a r : Int) (h0 : 0 ≤ t) (h1 : t ≤ 6) (h2 : 0 ≤ n) (h3 : n < 2305843009213693952) (h4 : -1152921504606846976 ≤ i) (h5 : i < 1152921504606846976) (h6 : 0 ≤ a) (h7 : a < 4096) (h8 : 1 ≤ r) (h9 : r ≤ 20) :
    ((cell_Make.f t n).bind fun bt110 => ((cell_Small.f i).bind fun bt112 => ((cell_Functor.f a r).bind fun bt114 => ((cell_Parts.f bt114.1).bind fun bt116 => (if bt110.2 = true then ((cell_Tag.f bt110.1).bind fun t118 => (if t118 = t then ((cell_Value.f bt110.1).bind fun t119 => (if t119 = n then (if bt112.2 = true then ((cell_Int.f bt112.1).bind fun t120 => (if t120 = i then (if bt114.2 = true then ((cell_Tag.f bt114.1).bind fun t121 => (if t121 = 6 then (if bt116.1 = a then (if bt116.2 = r then ((elenchuslaw4_awake.f).bind fun t122 => (some t122)) else (some false)) else (some false)) else (some false))) else (some false)) else (some false))) else (some false)) else (some false))) else (some false))) else (some false)))))) = some true := by
  refine bs (make_in t n h0 h1 h2 h3) ?_
  refine bs (small_in i h4 h5) ?_
  refine bs (functor_in a r h6 h7 h8 h9) ?_
  refine bs (parts_of a r h6 h7 h8 h9) ?_
  refine bi rfl (bs (tag_of n t h2 h3 h0 h1) (bi rfl (bs (value_of n t h0 h1) (bi rfl (bi rfl (bs (int_back i h4 h5) (bi rfl (bi rfl (bs (tag_of (a * 256 + r) 6 (by omega) (by omega) (by omega) (by omega)) (bi rfl (bi rfl (bi rfl (bs awake_f rfl)))))))))))))

theorem CellBack : elenchuslaw4_CellBack.Pure := by
  intro a0 a1 a2 a3 a4 w0 w1 w2 w3 w4
  have b1 := wf_u64 w1
  have u : ∀ x, 0 ≤ IntKind.u64.wrap x := by intro x; rw [wrap_u64]; omega
  have t1 : wrap64 (Int.tmod (IntKind.u64.wrap a0) 7) = IntKind.u64.wrap a0 % 7 := by rw [tmod_pos _ _ (u a0)]; exact wrap64_in _ (by omega) (by omega)
  have t2 : wrap64 (Int.tmod (IntKind.u64.wrap a3) 4096) = IntKind.u64.wrap a3 % 4096 := by rw [tmod_pos _ _ (u a3)]; exact wrap64_in _ (by omega) (by omega)
  have t3 : wrap64 (wrap64 (Int.tmod (IntKind.u64.wrap a4) 20) + 1) = IntKind.u64.wrap a4 % 20 + 1 := by
    rw [tmod_pos _ _ (u a4), wrap64_in (IntKind.u64.wrap a4 % 20) (by omega) (by omega)]; exact wrap64_in _ (by omega) (by omega)
  have t5 : -1152921504606846976 ≤ wrap64 (a2 * 8) / 8 ∧ wrap64 (a2 * 8) / 8 < 1152921504606846976 := by unfold wrap64; omega
  unfold elenchuslaw4_CellBack.f
  rw [t1, t2, t3, and61 a1 b1.1 (by omega)]
  exact back_of _ _ _ _ _ (by omega) (by omega) (by omega) (by omega) t5.1 t5.2 (by omega) (by omega) (by omega) (by omega)

end Go.Proofs.Ytaahamgjhlnjnaa.Pure
