/- Layer 7's laws share this: a term that every program must know to lie in cells (awake). -/
import Derived.Test.YtlmcfclonncgbaaMakes
import Derived.Test.YtlmcfclonncgbaaPutR
import Derived.Test.YtlmcfclonncgbaaHeld2
namespace Go.Proofs.Ytlmcfclonncgbaa
open Go.RowKit
set_option linter.unusedVariables false
set_option linter.unusedSimpArgs false

set_option maxRecDepth 100000 in
set_option maxHeartbeats 4000000 in
theorem awake7_any (w : World) : Calls Try.prog 25 #[] w fun e w' => e = .returned (.bool true) ∧ Below w.heap.size w w' := by
  go_enter Try.func25, Try.ntmps25
  go_wp2_with fail
  refine (new_any (fun _ => 0) 1 50 _).mono ?_
  rintro e w1 ⟨own1, x1, rfl, hlt1, h1⟩
  obtain ⟨p, hp⟩ : ∃ p, w.heap.size = p := ⟨_, rfl⟩
  rw [hp] at h1 hlt1 ⊢
  go_wp2_with fail
  refine (anew_any own1 2 3 _ (by decide)).mono ?_
  rintro e w2 ⟨own2, pt, x2, rfl, hle2, hlt2, t2⟩
  have h2 := h1.keep x2 (by decide)
  have X2 := x1.trans x2
  clear x1 x2 h1
  go_wp2_with (go_at_call 35; refine (r1var_any own2 0 _).mono ?_; rintro e w3 ⟨own3, x3, (rfl : e = .returned (.agg #[.int .i64 1, .string ByteArray.empty, .int .i64 0, .int .u64 0, .int .u64 0, .slice none 0 0]))⟩)
  obtain ⟨y3, k3, z3⟩ := x3.box [.int .i64 1, .string ByteArray.empty, .int .i64 0, .int .u64 0, .int .u64 0, .slice none 0 0] 25 0
  have h3 := (h2.keep x3 (by decide)).keep z3 (by decide)
  have t3 := (t2.keep x3 (by decide) (by decide)).keep z3 (by decide) (by decide)
  have X3 := X2.trans y3
  clear x3 y3 z3 h2 t2 X2
  generalize _root_.Go.Proofs.Ytlmcfclonncgbaa.give own3 w3.heap.size 0 = o3 at *
  obtain ⟨X, hX⟩ : ∃ X, w3.heap.size = X := ⟨_, rfl⟩
  obtain ⟨W3, hW⟩ : ∃ W, w3.alloc (.cells #[.int .i64 1, .string ByteArray.empty, .int .i64 0, .int .u64 0, .int .u64 0, .slice none 0 0] 25) = W := ⟨_, rfl⟩
  change Blk o3 0 (w3.alloc (.cells #[.int .i64 1, .string ByteArray.empty, .int .i64 0, .int .u64 0, .int .u64 0, .slice none 0 0] 25)) w3.heap.size _ _ at k3
  change HP o3 1 (w3.alloc (.cells #[.int .i64 1, .string ByteArray.empty, .int .i64 0, .int .u64 0, .int .u64 0, .slice none 0 0] 25)) p _ _ at h3
  change TabP o3 2 3 (w3.alloc (.cells #[.int .i64 1, .string ByteArray.empty, .int .i64 0, .int .u64 0, .int .u64 0, .slice none 0 0] 25)) pt _ at t3
  change Ext _ o3 [] w (w3.alloc (.cells #[.int .i64 1, .string ByteArray.empty, .int .i64 0, .int .u64 0, .int .u64 0, .slice none 0 0] 25)) at X3
  rw [hX, hW] at k3
  rw [hX]
  rw [hW] at h3 t3 X3 ⊢
  clear hX hW hlt1 hle2 hlt2
  refine wp_calm ?_
  have HS : W3.drew.cell? ⟨X, 0, none⟩ = some (.int .i64 1) ∧ W3.drew.cell? ⟨X, 1, none⟩ = some (.string ByteArray.empty) ∧ W3.drew.cell? ⟨X, 2, none⟩ = some (.int .i64 0) ∧ W3.drew.cell? ⟨X, 3, none⟩ = some (.int .u64 0) ∧ W3.drew.cell? ⟨X, 4, none⟩ = some (.int .u64 0) ∧ W3.drew.cell? ⟨X, 5, none⟩ = some (.slice none 0 0) := ⟨k3.cell 0 rfl, k3.cell 1 rfl, k3.cell 2 rfl, k3.cell 3 rfl, k3.cell 4 rfl, k3.cell 5 rfl⟩
  refine wp_region_till 5 (fun W => W.cell? ⟨X, 0, none⟩ = some (.int .i64 1) ∧ W.cell? ⟨X, 1, none⟩ = some (.string ByteArray.empty) ∧ W.cell? ⟨X, 2, none⟩ = some (.int .i64 0) ∧ W.cell? ⟨X, 3, none⟩ = some (.int .u64 0) ∧ W.cell? ⟨X, 4, none⟩ = some (.int .u64 0) ∧ W.cell? ⟨X, 5, none⟩ = some (.slice none 0 0)) (by kernel_rfl) ?_
  refine wpTill_free 0 (v := ?_) rfl (by kernel_rfl) (by kernel_rfl) (by kernel_rfl) (by kernel_rfl) (fun _ _ _ h => h) rfl (fun _ => HS) ?_ ?_
  rotate_left 1
  · intro w; go_simp; try with_reducible rfl
  try simp only [Act.put, List.setIfInBounds_toArray, List.set_cons_zero, List.set_cons_succ, List.getElem_toArray, List.getElem_cons_succ, List.getElem_cons_zero]
  refine wpTill_free 1 (v := ?_) rfl (by kernel_rfl) (by kernel_rfl) (by kernel_rfl) (by kernel_rfl) (fun _ _ _ h => h) rfl (fun _ => HS) ?_ ?_
  rotate_left 1
  · intro w; go_simp; try with_reducible rfl
  try simp only [Act.put, List.setIfInBounds_toArray, List.set_cons_zero, List.set_cons_succ, List.getElem_toArray, List.getElem_cons_succ, List.getElem_cons_zero]
  refine wpTill_take 2 (v := ?_) rfl (by kernel_rfl) (by kernel_rfl) (by kernel_rfl) (by kernel_rfl) (by kernel_rfl) (fun _ _ _ h => h) rfl HS ?_ ?_
  rotate_left 1
  · intro w hSw; go_split_ands; go_simp; try with_reducible rfl
  try simp only [Act.put, List.setIfInBounds_toArray, List.set_cons_zero, List.set_cons_succ, List.getElem_toArray, List.getElem_cons_succ, List.getElem_cons_zero]
  refine wpTill_take 4 (v := ?_) rfl (by kernel_rfl) (by kernel_rfl) (by kernel_rfl) (by kernel_rfl) (by kernel_rfl) (fun _ _ _ h => h) rfl HS ?_ ?_
  rotate_left 1
  · intro w hSw; go_split_ands; go_simp; try with_reducible rfl
  try simp only [Act.put, List.setIfInBounds_toArray, List.set_cons_zero, List.set_cons_succ, List.getElem_toArray, List.getElem_cons_succ, List.getElem_cons_zero]
  refine wpTill_one 3 rfl (by kernel_rfl) rfl (fun K hK => ?_)
  go_simp
  refine (r1atom_any o3 ⟨#[97]⟩ _).mono ?_
  rintro e w4 ⟨own4, x4, (rfl : e = .returned (.agg #[.int .i64 2, .string ⟨#[97]⟩, .int .i64 0, .int .u64 0, .int .u64 0, .slice none 0 0]))⟩
  replace x4 := x4.ofDraw
  have k4 := k3.keep x4 (by decide)
  have X4 := X3.trans x4
  have h4 := h3.keep x4 (by decide)
  have t4 := t3.keep x4 (by decide) (by decide)
  refine hK.out _ _ (fun _ => ⟨k4.cell 0 rfl, k4.cell 1 rfl, k4.cell 2 rfl, k4.cell 3 rfl, k4.cell 4 rfl, k4.cell 5 rfl⟩) ?_
  clear hK K
  try simp only [Act.put, List.setIfInBounds_toArray, List.set_cons_zero, List.set_cons_succ, List.getElem_toArray, List.getElem_cons_succ, List.getElem_cons_zero]
  refine wpTill_one 5 rfl (by kernel_rfl) rfl (fun K hK => ?_)
  go_simp
  refine hK.out _ _ (Till.gone (by kernel_rfl)) ?_
  clear hK K
  try simp only [Act.put, List.setIfInBounds_toArray, List.set_cons_zero, List.set_cons_succ, List.getElem_toArray, List.getElem_cons_succ, List.getElem_cons_zero]
  obtain ⟨x5, l5⟩ := TmL.built own4 w4 [(.mk 1 ByteArray.empty 0 0 0 [], .slice none 0 0), (.mk 2 ⟨#[97]⟩ 0 0 0 [], .slice none 0 0), (.mk 1 ByteArray.empty 0 0 0 [], .slice none 0 0)] (by intro z hz; simp at hz; rcases hz with rfl | rfl | rfl <;> exact leaf_term (by unfold Rng; decide)) (by decide) 25 [.int .i64 1, .string ByteArray.empty, .int .i64 0, .int .u64 0, .int .u64 0, .slice none 0 0, .int .i64 2, .string ⟨#[97]⟩, .int .i64 0, .int .u64 0, .int .u64 0, .slice none 0 0, .int .i64 1, .string ByteArray.empty, .int .i64 0, .int .u64 0, .int .u64 0, .slice none 0 0] rfl
  have h5 := h4.keep x5 (by decide)
  have t5 := t4.keep x5 (by decide) (by decide)
  have X5 := X4.trans x5
  refine wpTill_one 6 rfl (by kernel_rfl) rfl (fun K hK => ?_)
  go_simp
  refine (r1comp_any (give own4 w4.heap.size 0) ⟨#[102]⟩ [.mk 1 ByteArray.empty 0 0 0 [], .mk 2 ⟨#[97]⟩ 0 0 0 [], .mk 1 ByteArray.empty 0 0 0 []] (some ⟨w4.heap.size, 0, none⟩) 3 3 _).mono ?_
  rintro e w6 ⟨own6, x6, (rfl : e = .returned (.agg #[.int .i64 5, .string ⟨#[102]⟩, .int .i64 0, .int .u64 0, .int .u64 0, .slice (some ⟨w4.heap.size, 0, none⟩) 3 3]))⟩
  have h6 := h5.keep x6 (by decide)
  have t6 := t5.keep x6 (by decide) (by decide)
  have l6 := l5.keep x6 (by decide)
  have X6 := X5.trans x6
  refine hK.out _ _ (Till.gone (by kernel_rfl)) ?_
  clear hK K
  try simp only [Act.put, List.setIfInBounds_toArray, List.set_cons_zero, List.set_cons_succ, List.getElem_toArray, List.getElem_cons_succ, List.getElem_cons_zero]
  have hput := put_any own6 1 2 3 4 (by constructor <;> decide) w6 p pt none (mostOf 50) awkT (.slice (some ⟨w4.heap.size, 0, none⟩) 3 3) ⟨[], names0, []⟩ (TmL.comp l6 (by unfold Rng; decide)) h6 t6 (Or.inl ⟨rfl, rfl⟩) (by decide)
  rw [show putR (mostOf 50) awkT ⟨[], names0, []⟩ = _ from awkT_put] at hput
  refine wpTill_one 7 rfl (by kernel_rfl) rfl (fun K hK => ?_)
  go_simp
  refine Calls.mono hput ?_
  rintro e w7 ⟨own7, x7, (rfl : e = .returned (.tuple #[.int .u64 1, .int .i64 0])), h7, t7, _⟩
  have X7 := (X6.mono (jds := [1, 2, 3, 4]) (by decide)).trans x7
  refine hK.out _ _ (Till.gone (by kernel_rfl)) ?_
  clear hK K
  try simp only [Act.put, List.setIfInBounds_toArray, List.set_cons_zero, List.set_cons_succ, List.getElem_toArray, List.getElem_cons_succ, List.getElem_cons_zero]
  refine wpTill_free 8 (v := ?_) rfl (by kernel_rfl) (by kernel_rfl) (by kernel_rfl) (by kernel_rfl) (fun _ _ _ h => h) rfl (Till.gone (by kernel_rfl)) ?_ ?_
  rotate_left 1
  · intro w; go_simp; try with_reducible rfl
  try simp only [Act.put, List.setIfInBounds_toArray, List.set_cons_zero, List.set_cons_succ, List.getElem_toArray, List.getElem_cons_succ, List.getElem_cons_zero]
  refine wpTill_free 9 (v := ?_) rfl (by kernel_rfl) (by kernel_rfl) (by kernel_rfl) (by kernel_rfl) (fun _ _ _ h => h) rfl (Till.gone (by kernel_rfl)) ?_ ?_
  rotate_left 1
  · intro w; go_simp; try with_reducible rfl
  try simp only [Act.put, List.setIfInBounds_toArray, List.set_cons_zero, List.set_cons_succ, List.getElem_toArray, List.getElem_cons_succ, List.getElem_cons_zero]
  refine wpTill_free 10 (v := ?_) rfl (by kernel_rfl) (by kernel_rfl) (by kernel_rfl) (by kernel_rfl) (fun _ _ _ h => h) rfl (Till.gone (by kernel_rfl)) ?_ ?_
  rotate_left 1
  · intro w; go_simp; try with_reducible rfl
  try simp only [Act.put, List.setIfInBounds_toArray, List.set_cons_zero, List.set_cons_succ, List.getElem_toArray, List.getElem_cons_succ, List.getElem_cons_zero]
  refine wpTill_free 11 (v := ?_) rfl (by kernel_rfl) (by kernel_rfl) (by kernel_rfl) (by kernel_rfl) (fun _ _ _ h => h) rfl (Till.gone (by kernel_rfl)) ?_ ?_
  rotate_left 1
  · intro w; go_simp; try with_reducible rfl
  try simp only [Act.put, List.setIfInBounds_toArray, List.set_cons_zero, List.set_cons_succ, List.getElem_toArray, List.getElem_cons_succ, List.getElem_cons_zero]
  refine wpTill_free 12 (v := ?_) rfl (by kernel_rfl) (by kernel_rfl) (by kernel_rfl) (by kernel_rfl) (fun _ _ _ h => h) rfl (Till.gone (by kernel_rfl)) ?_ ?_
  rotate_left 1
  · intro w; go_simp; try with_reducible rfl
  try simp only [Act.put, List.setIfInBounds_toArray, List.set_cons_zero, List.set_cons_succ, List.getElem_toArray, List.getElem_cons_succ, List.getElem_cons_zero]
  refine wpTill_done (by kernel_rfl) ?_ _
  clear HS hput h3 t3 h4 t4 h5 t5 h6 t6 l5 l6 x4 x5 x6 k3 k4 X3 X4 X5 X6
  replace h7 : HP own7 1 w7 p (mostOf 50) [funC 2 3, 8, 26, 8] := h7
  go_wp2_with (first | (go_at_call 36; refine (get_in own7 1 p (mostOf 50) 3 [funC 2 3, 8, 26, 8] _ h7 (by decide) (by decide)).mono ?_; rintro e w8 ⟨rfl, n, rfl⟩) | (go_at_call 31; refine (len_any own7 1 p (mostOf 50) [funC 2 3, 8, 26, 8] _ (h7.keep ((Ext.refl own7 [] w7).drewN n) (by decide))).mono ?_; rintro e w8 ⟨rfl, n2, rfl⟩) | (go_at_call 85; refine (rmake_any _ _ _ (by decide) (by decide) (by decide) (by decide)).mono ?_; rintro e w' ⟨rfl, rfl⟩))
  go_ret
  refine ⟨rfl, ?_⟩
  exact (X7.drewN (n + n2)).below (fun _ _ => rfl) (by decide)

end Go.Proofs.Ytlmcfclonncgbaa
