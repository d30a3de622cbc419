/- Texts that stand together: PutR, Awake7, SmallLaw, AlikeLaw. -/
import Derived.Test.YtlmcfclonncgbaaPutW
import Derived.Test.YtlmcfclonncgbaaPk3
import Derived.Test.YtlmcfclonncgbaaPk4
import Derived.Test.YtlmcfclonncgbaaPk2
/- What Put lays, by recursion. -/
namespace Go.Proofs.Ytlmcfclonncgbaa
open Go.RowKit
set_option linter.unusedVariables false
set_option linter.unusedSimpArgs false

theorem putR_eq (most : Int) (t : Tm) (st : SS) : putR most t st = if mayE t = 0 then (if (putT most (cl t) (-1) st).2.2 ≠ 0 then ((putT most (cl t) (-1) st).1, 0, (putT most (cl t) (-1) st).2.2) else ((putT most (cl t) (-1) st).1, (putT most (cl t) (-1) st).2.1, 0)) else (st, 0, mayE t) := by
  unfold putR
  rw [run_one]
def awkT : Tm := .mk 5 ⟨#[102]⟩ 0 0 0 [.mk 1 ByteArray.empty 0 0 0 [], .mk 2 ⟨#[97]⟩ 0 0 0 [], .mk 1 ByteArray.empty 0 0 0 []]
theorem awkT_put : putR 50 awkT ⟨[], names0, []⟩ = (⟨[funC 2 3, 8, 26, 8], names0 ++ [⟨#[102]⟩, ⟨#[97]⟩], [(0, 8)]⟩, 1, 0) := by
  rw [putR_eq]
  kernel_rfl

end Go.Proofs.Ytlmcfclonncgbaa
/- Layer 7's laws share this: a term that every program must know to lie in cells (awake). -/
namespace Go.Proofs.Ytlmcfclonncgbaa
open Go.RowKit
set_option linter.unusedVariables false
set_option linter.unusedSimpArgs false

set_option maxRecDepth 100000 in
set_option maxHeartbeats 4000000 in
theorem awake7_any (w : World) : Calls Try.prog 25 #[] w fun e w' => e = .returned (.bool true) ∧ Below w.heap.size w w' := by
  go_enter Try.func25, Try.ntmps25
  go_wp2_with fail
  refine (new_any (fun _ => 0) 1 50 _).mono ?_
  rintro e w1 ⟨own1, x1, rfl, hlt1, h1⟩
  obtain ⟨p, hp⟩ : ∃ p, w.heap.size = p := ⟨_, rfl⟩
  rw [hp] at h1 hlt1 ⊢
  go_wp2_with fail
  refine (anew_any own1 2 3 _ (by decide)).mono ?_
  rintro e w2 ⟨own2, pt, x2, rfl, hle2, hlt2, t2⟩
  have h2 := h1.keep x2 (by decide)
  have X2 := x1.trans x2
  clear x1 x2 h1
  go_wp2_with (go_at_call 35; refine (r1var_any own2 0 _).mono ?_; rintro e w3 ⟨own3, x3, (rfl : e = .returned (.agg #[.int .i64 1, .string ByteArray.empty, .int .i64 0, .int .u64 0, .int .u64 0, .slice none 0 0]))⟩)
  obtain ⟨y3, k3, z3⟩ := x3.box [.int .i64 1, .string ByteArray.empty, .int .i64 0, .int .u64 0, .int .u64 0, .slice none 0 0] 25 0
  have h3 := (h2.keep x3 (by decide)).keep z3 (by decide)
  have t3 := (t2.keep x3 (by decide) (by decide)).keep z3 (by decide) (by decide)
  have X3 := X2.trans y3
  clear x3 y3 z3 h2 t2 X2
  generalize _root_.Go.Proofs.Ytlmcfclonncgbaa.give own3 w3.heap.size 0 = o3 at *
  obtain ⟨X, hX⟩ : ∃ X, w3.heap.size = X := ⟨_, rfl⟩
  obtain ⟨W3, hW⟩ : ∃ W, w3.alloc (.cells #[.int .i64 1, .string ByteArray.empty, .int .i64 0, .int .u64 0, .int .u64 0, .slice none 0 0] 25) = W := ⟨_, rfl⟩
  change Blk o3 0 (w3.alloc (.cells #[.int .i64 1, .string ByteArray.empty, .int .i64 0, .int .u64 0, .int .u64 0, .slice none 0 0] 25)) w3.heap.size _ _ at k3
  change HP o3 1 (w3.alloc (.cells #[.int .i64 1, .string ByteArray.empty, .int .i64 0, .int .u64 0, .int .u64 0, .slice none 0 0] 25)) p _ _ at h3
  change TabP o3 2 3 (w3.alloc (.cells #[.int .i64 1, .string ByteArray.empty, .int .i64 0, .int .u64 0, .int .u64 0, .slice none 0 0] 25)) pt _ at t3
  change Ext _ o3 [] w (w3.alloc (.cells #[.int .i64 1, .string ByteArray.empty, .int .i64 0, .int .u64 0, .int .u64 0, .slice none 0 0] 25)) at X3
  rw [hX, hW] at k3
  rw [hX]
  rw [hW] at h3 t3 X3 ⊢
  clear hX hW hlt1 hle2 hlt2
  refine wp_calm ?_
  have HS : W3.drew.cell? ⟨X, 0, none⟩ = some (.int .i64 1) ∧ W3.drew.cell? ⟨X, 1, none⟩ = some (.string ByteArray.empty) ∧ W3.drew.cell? ⟨X, 2, none⟩ = some (.int .i64 0) ∧ W3.drew.cell? ⟨X, 3, none⟩ = some (.int .u64 0) ∧ W3.drew.cell? ⟨X, 4, none⟩ = some (.int .u64 0) ∧ W3.drew.cell? ⟨X, 5, none⟩ = some (.slice none 0 0) := ⟨k3.cell 0 rfl, k3.cell 1 rfl, k3.cell 2 rfl, k3.cell 3 rfl, k3.cell 4 rfl, k3.cell 5 rfl⟩
  refine wp_region_till 5 (fun W => W.cell? ⟨X, 0, none⟩ = some (.int .i64 1) ∧ W.cell? ⟨X, 1, none⟩ = some (.string ByteArray.empty) ∧ W.cell? ⟨X, 2, none⟩ = some (.int .i64 0) ∧ W.cell? ⟨X, 3, none⟩ = some (.int .u64 0) ∧ W.cell? ⟨X, 4, none⟩ = some (.int .u64 0) ∧ W.cell? ⟨X, 5, none⟩ = some (.slice none 0 0)) (by kernel_rfl) ?_
  refine wpTill_free 0 (v := ?_) rfl (by kernel_rfl) (by kernel_rfl) (by kernel_rfl) (by kernel_rfl) (fun _ _ _ h => h) rfl (fun _ => HS) ?_ ?_
  rotate_left 1
  · intro w; go_simp; try with_reducible rfl
  try simp only [Act.put, List.setIfInBounds_toArray, List.set_cons_zero, List.set_cons_succ, List.getElem_toArray, List.getElem_cons_succ, List.getElem_cons_zero]
  refine wpTill_free 1 (v := ?_) rfl (by kernel_rfl) (by kernel_rfl) (by kernel_rfl) (by kernel_rfl) (fun _ _ _ h => h) rfl (fun _ => HS) ?_ ?_
  rotate_left 1
  · intro w; go_simp; try with_reducible rfl
  try simp only [Act.put, List.setIfInBounds_toArray, List.set_cons_zero, List.set_cons_succ, List.getElem_toArray, List.getElem_cons_succ, List.getElem_cons_zero]
  refine wpTill_take 2 (v := ?_) rfl (by kernel_rfl) (by kernel_rfl) (by kernel_rfl) (by kernel_rfl) (by kernel_rfl) (fun _ _ _ h => h) rfl HS ?_ ?_
  rotate_left 1
  · intro w hSw; go_split_ands; go_simp; try with_reducible rfl
  try simp only [Act.put, List.setIfInBounds_toArray, List.set_cons_zero, List.set_cons_succ, List.getElem_toArray, List.getElem_cons_succ, List.getElem_cons_zero]
  refine wpTill_take 4 (v := ?_) rfl (by kernel_rfl) (by kernel_rfl) (by kernel_rfl) (by kernel_rfl) (by kernel_rfl) (fun _ _ _ h => h) rfl HS ?_ ?_
  rotate_left 1
  · intro w hSw; go_split_ands; go_simp; try with_reducible rfl
  try simp only [Act.put, List.setIfInBounds_toArray, List.set_cons_zero, List.set_cons_succ, List.getElem_toArray, List.getElem_cons_succ, List.getElem_cons_zero]
  refine wpTill_one 3 rfl (by kernel_rfl) rfl (fun K hK => ?_)
  go_simp
  refine (r1atom_any o3 ⟨#[97]⟩ _).mono ?_
  rintro e w4 ⟨own4, x4, (rfl : e = .returned (.agg #[.int .i64 2, .string ⟨#[97]⟩, .int .i64 0, .int .u64 0, .int .u64 0, .slice none 0 0]))⟩
  replace x4 := x4.ofDraw
  have k4 := k3.keep x4 (by decide)
  have X4 := X3.trans x4
  have h4 := h3.keep x4 (by decide)
  have t4 := t3.keep x4 (by decide) (by decide)
  refine hK.out _ _ (fun _ => ⟨k4.cell 0 rfl, k4.cell 1 rfl, k4.cell 2 rfl, k4.cell 3 rfl, k4.cell 4 rfl, k4.cell 5 rfl⟩) ?_
  clear hK K
  try simp only [Act.put, List.setIfInBounds_toArray, List.set_cons_zero, List.set_cons_succ, List.getElem_toArray, List.getElem_cons_succ, List.getElem_cons_zero]
  refine wpTill_one 5 rfl (by kernel_rfl) rfl (fun K hK => ?_)
  go_simp
  refine hK.out _ _ (Till.gone (by kernel_rfl)) ?_
  clear hK K
  try simp only [Act.put, List.setIfInBounds_toArray, List.set_cons_zero, List.set_cons_succ, List.getElem_toArray, List.getElem_cons_succ, List.getElem_cons_zero]
  obtain ⟨x5, l5⟩ := TmL.built own4 w4 [(.mk 1 ByteArray.empty 0 0 0 [], .slice none 0 0), (.mk 2 ⟨#[97]⟩ 0 0 0 [], .slice none 0 0), (.mk 1 ByteArray.empty 0 0 0 [], .slice none 0 0)] (by intro z hz; simp at hz; rcases hz with rfl | rfl | rfl <;> exact leaf_term (by unfold Rng; decide)) (by decide) 25 [.int .i64 1, .string ByteArray.empty, .int .i64 0, .int .u64 0, .int .u64 0, .slice none 0 0, .int .i64 2, .string ⟨#[97]⟩, .int .i64 0, .int .u64 0, .int .u64 0, .slice none 0 0, .int .i64 1, .string ByteArray.empty, .int .i64 0, .int .u64 0, .int .u64 0, .slice none 0 0] rfl
  have h5 := h4.keep x5 (by decide)
  have t5 := t4.keep x5 (by decide) (by decide)
  have X5 := X4.trans x5
  refine wpTill_one 6 rfl (by kernel_rfl) rfl (fun K hK => ?_)
  go_simp
  refine (r1comp_any (give own4 w4.heap.size 0) ⟨#[102]⟩ [.mk 1 ByteArray.empty 0 0 0 [], .mk 2 ⟨#[97]⟩ 0 0 0 [], .mk 1 ByteArray.empty 0 0 0 []] (some ⟨w4.heap.size, 0, none⟩) 3 3 _).mono ?_
  rintro e w6 ⟨own6, x6, (rfl : e = .returned (.agg #[.int .i64 5, .string ⟨#[102]⟩, .int .i64 0, .int .u64 0, .int .u64 0, .slice (some ⟨w4.heap.size, 0, none⟩) 3 3]))⟩
  have h6 := h5.keep x6 (by decide)
  have t6 := t5.keep x6 (by decide) (by decide)
  have l6 := l5.keep x6 (by decide)
  have X6 := X5.trans x6
  refine hK.out _ _ (Till.gone (by kernel_rfl)) ?_
  clear hK K
  try simp only [Act.put, List.setIfInBounds_toArray, List.set_cons_zero, List.set_cons_succ, List.getElem_toArray, List.getElem_cons_succ, List.getElem_cons_zero]
  have hput := put_any own6 1 2 3 4 (by constructor <;> decide) w6 p pt none (mostOf 50) awkT (.slice (some ⟨w4.heap.size, 0, none⟩) 3 3) ⟨[], names0, []⟩ (TmL.comp l6 (by unfold Rng; decide)) h6 t6 (Or.inl ⟨rfl, rfl⟩) (by decide)
  rw [show putR (mostOf 50) awkT ⟨[], names0, []⟩ = _ from awkT_put] at hput
  refine wpTill_one 7 rfl (by kernel_rfl) rfl (fun K hK => ?_)
  go_simp
  refine Calls.mono hput ?_
  rintro e w7 ⟨own7, x7, (rfl : e = .returned (.tuple #[.int .u64 1, .int .i64 0])), h7, t7, _⟩
  have X7 := (X6.mono (jds := [1, 2, 3, 4]) (by decide)).trans x7
  refine hK.out _ _ (Till.gone (by kernel_rfl)) ?_
  clear hK K
  try simp only [Act.put, List.setIfInBounds_toArray, List.set_cons_zero, List.set_cons_succ, List.getElem_toArray, List.getElem_cons_succ, List.getElem_cons_zero]
  refine wpTill_free 8 (v := ?_) rfl (by kernel_rfl) (by kernel_rfl) (by kernel_rfl) (by kernel_rfl) (fun _ _ _ h => h) rfl (Till.gone (by kernel_rfl)) ?_ ?_
  rotate_left 1
  · intro w; go_simp; try with_reducible rfl
  try simp only [Act.put, List.setIfInBounds_toArray, List.set_cons_zero, List.set_cons_succ, List.getElem_toArray, List.getElem_cons_succ, List.getElem_cons_zero]
  refine wpTill_free 9 (v := ?_) rfl (by kernel_rfl) (by kernel_rfl) (by kernel_rfl) (by kernel_rfl) (fun _ _ _ h => h) rfl (Till.gone (by kernel_rfl)) ?_ ?_
  rotate_left 1
  · intro w; go_simp; try with_reducible rfl
  try simp only [Act.put, List.setIfInBounds_toArray, List.set_cons_zero, List.set_cons_succ, List.getElem_toArray, List.getElem_cons_succ, List.getElem_cons_zero]
  refine wpTill_free 10 (v := ?_) rfl (by kernel_rfl) (by kernel_rfl) (by kernel_rfl) (by kernel_rfl) (fun _ _ _ h => h) rfl (Till.gone (by kernel_rfl)) ?_ ?_
  rotate_left 1
  · intro w; go_simp; try with_reducible rfl
  try simp only [Act.put, List.setIfInBounds_toArray, List.set_cons_zero, List.set_cons_succ, List.getElem_toArray, List.getElem_cons_succ, List.getElem_cons_zero]
  refine wpTill_free 11 (v := ?_) rfl (by kernel_rfl) (by kernel_rfl) (by kernel_rfl) (by kernel_rfl) (fun _ _ _ h => h) rfl (Till.gone (by kernel_rfl)) ?_ ?_
  rotate_left 1
  · intro w; go_simp; try with_reducible rfl
  try simp only [Act.put, List.setIfInBounds_toArray, List.set_cons_zero, List.set_cons_succ, List.getElem_toArray, List.getElem_cons_succ, List.getElem_cons_zero]
  refine wpTill_free 12 (v := ?_) rfl (by kernel_rfl) (by kernel_rfl) (by kernel_rfl) (by kernel_rfl) (fun _ _ _ h => h) rfl (Till.gone (by kernel_rfl)) ?_ ?_
  rotate_left 1
  · intro w; go_simp; try with_reducible rfl
  try simp only [Act.put, List.setIfInBounds_toArray, List.set_cons_zero, List.set_cons_succ, List.getElem_toArray, List.getElem_cons_succ, List.getElem_cons_zero]
  refine wpTill_done (by kernel_rfl) ?_ _
  clear HS hput h3 t3 h4 t4 h5 t5 h6 t6 l5 l6 x4 x5 x6 k3 k4 X3 X4 X5 X6
  replace h7 : HP own7 1 w7 p (mostOf 50) [funC 2 3, 8, 26, 8] := h7
  go_wp2_with (first | (go_at_call 36; refine (get_in own7 1 p (mostOf 50) 3 [funC 2 3, 8, 26, 8] _ h7 (by decide) (by decide)).mono ?_; rintro e w8 ⟨rfl, n, rfl⟩) | (go_at_call 31; refine (len_any own7 1 p (mostOf 50) [funC 2 3, 8, 26, 8] _ (h7.keep ((Ext.refl own7 [] w7).drewN n) (by decide))).mono ?_; rintro e w8 ⟨rfl, n2, rfl⟩) | (go_at_call 85; refine (rmake_any _ _ _ (by decide) (by decide) (by decide) (by decide)).mono ?_; rintro e w' ⟨rfl, rfl⟩))
  go_ret
  refine ⟨rfl, ?_⟩
  exact (X7.drewN (n + n2)).below (fun _ _ => rfl) (by decide)

end Go.Proofs.Ytlmcfclonncgbaa
/- How many cells a term takes, in plain terms. -/
namespace Go.Proofs.Ytlmcfclonncgbaa
open Go.RowKit
set_option linter.unusedVariables false
set_option linter.unusedSimpArgs false

theorem tms_ranged {own : Nat → Nat} {w : World} : ∀ (t : Tm) (sl : Value), TmS own w t sl → Kinds t → ranged (cl t) := by
  refine Tm.ind ?_
  intro k s n re im args ih sl h hk
  have hk15 : 1 ≤ k ∧ k ≤ 5 := by cases hk <;> omega
  have hr := h.rng
  rcases cl_cases k s n re im args hk15.1 hk15.2 with ⟨rfl, e⟩ | ⟨rfl, e⟩ | ⟨rfl, e⟩ | ⟨rfl, e⟩ | ⟨rfl, e⟩
  · rw [e]; trivial
  · rw [e]; trivial
  · rw [e]
    have h2 : -9223372036854775808 ≤ n ∧ n ≤ 9223372036854775807 := hr.2.1
    exact ⟨h2.1, by omega⟩
  · rw [e]
    have h3 : 0 ≤ re ∧ re < 18446744073709551616 := hr.2.2.1
    have h4 : 0 ≤ im ∧ im < 18446744073709551616 := hr.2.2.2.1
    exact ⟨h3.1, h4.1, h3.2, h4.2⟩
  · rw [e]
    obtain ⟨A, len, cap, rfl, hL⟩ := h.args
    have hka := kinds_args hk rfl
    have key : ∀ l : List Tm, (∀ a ∈ l, a ∈ args) → rangeds (cls l) := by
      intro l
      induction l with
      | nil => intro _; trivial
      | cons a l ih2 =>
        intro hl
        have ha : a ∈ args := hl a (by simp)
        obtain ⟨j, hj⟩ := List.getElem?_of_mem ha
        obtain ⟨b, o, sl', _, _, _, hT, _⟩ := TmE.get args 0 hL.2.2.2 j a hj
        exact ⟨ih a ha sl' hT (hka a ha), ih2 (fun x hx => hl x (by simp [hx]))⟩
    exact key args (fun _ h => h)
theorem cnt_size : ∀ (t : Tm), Kinds t → cntF t false = size (cl t) ∧ cntF t true = size (cl t) + topv [] (cl t) := by
  refine Tm.ind ?_
  intro k s n re im args ih hk
  have hk15 : 1 ≤ k ∧ k ≤ 5 := by cases hk <;> omega
  rcases cl_cases k s n re im args hk15.1 hk15.2 with ⟨rfl, e⟩ | ⟨rfl, e⟩ | ⟨rfl, e⟩ | ⟨rfl, e⟩ | ⟨rfl, e⟩
  · rw [e]; unfold cntF; simp [size, topv, look]
  · rw [e]; unfold cntF; simp [size, topv]
  · rw [e]; unfold cntF; simp [size, topv]
  · rw [e]; unfold cntF; simp [size, topv]
  · rw [e]
    have hka := kinds_args hk rfl
    have key : ∀ l : List Tm, (∀ a ∈ l, a ∈ args) → cntFs l = sizes (cls l) := by
      intro l
      induction l with
      | nil => intro _; rfl
      | cons a l ih2 =>
        intro hl
        have ha : a ∈ args := hl a (by simp)
        rw [cntFs_cons, (ih a ha (hka a ha)).1, ih2 (fun x hx => hl x (by simp [hx]))]
        rfl
    have h1 := key args (fun _ h => h)
    unfold cntF
    simp only [size, topv, cls_length, h1]
    simp
theorem inv0 : Inv (fun _ => False) (fun n => .var n) (fun _ => False) ⟨[], names0, []⟩ :=
  ⟨fun x hx => by simp at hx, names0_ok, fun p hp => hp.elim, fun n c h => by simp [look] at h, fun n c h => by simp [look] at h⟩
theorem topv_le (V : List (Int × Int)) (t : CT) : topv V t ≤ 1 := by unfold topv; split <;> (try split) <;> omega
/-- A term that may be, laid on an empty heap with room. -/
theorem put0_ok (most : Int) (t : Tm) (hm : mayE t = 0) (hr : ranged (cl t)) (hmost : 6001 ≤ most) : ∃ W' E' M, PutOk (cl t) (-1) (fun _ => False) (fun n => .var n) (fun _ => False) ⟨[], names0, []⟩ (putT most (cl t) (-1) ⟨[], names0, []⟩) W' E' (putT most (cl t) (-1) ⟨[], names0, []⟩).1.l M ∧ putR most t ⟨[], names0, []⟩ = putT most (cl t) (-1) ⟨[], names0, []⟩ := by
  obtain ⟨hk, hf, hd, hn⟩ := mayE_zero.1 hm
  have h1 := size_le (cl t)
  have h2 := topv_le [] (cl t)
  obtain ⟨W', E', m, M, h⟩ := putT_ok most (cl t) (-1) ⟨[], names0, []⟩ _ _ _ inv0 hf hr (fun p hp => by omega) (by simp only [List.length_nil]; split <;> omega) (by have : names0.length = 2 := rfl; simp only [this]; omega)
  have hl := h.l
  simp only [List.nil_append] at hl
  refine ⟨W', E', M, by rw [hl]; exact h, ?_⟩
  rw [putR_eq, if_pos hm, if_neg (by simpa using h.err)]
  have he := h.err
  exact Prod.ext rfl (Prod.ext rfl he.symm)
theorem small_law (t : Tm) (hm : mayE t = 0) (hr : ranged (cl t)) : (putR 1048576 t ⟨[], names0, []⟩).2.2 = 0 ∧ (putR 1048576 t ⟨[], names0, []⟩).1.l.length = cntF t true := by
  obtain ⟨W', E', M, h, e⟩ := put0_ok 1048576 t hm hr (by decide)
  rw [e]
  refine ⟨h.err, ?_⟩
  rw [h.len, (cnt_size t (mayE_zero.1 hm).1).2]
  rfl
theorem cnt_le (t : Tm) (hm : mayE t = 0) : cntF t true ≤ 6001 := by
  obtain ⟨hk, hf, hd, hn⟩ := mayE_zero.1 hm
  rw [(cnt_size t hk).2]
  have h1 := size_le (cl t)
  have h2 := topv_le [] (cl t)
  omega

end Go.Proofs.Ytlmcfclonncgbaa
/- A term with other numbers of variables is laid alike: in plain terms. -/
namespace Go.Proofs.Ytlmcfclonncgbaa
open Go.RowKit
set_option linter.unusedVariables false
set_option linter.unusedSimpArgs false

/-- Variables renamed. -/
def ren (ρ : Int → Int) : Int → CT := fun n => .var (ρ n)
def renS (ρ : Int → Int) (st : SS) : SS := { st with V := st.V.map (fun p => (ρ p.1, p.2)) }
theorem look_ren {ρ : Int → Int} (hi : ∀ a b, ρ a = ρ b → a = b) : ∀ (V : List (Int × Int)) (n : Int), look (V.map (fun p => (ρ p.1, p.2))) (ρ n) = look V n
  | [], _ => rfl
  | (k, x) :: V, n => by
    have ih := look_ren hi V n
    simp only [List.map_cons, look]
    by_cases h : k = n
    · subst h; simp
    · rw [if_neg (fun e => h (hi _ _ e)), if_neg h]; exact ih
theorem varT_ren {ρ : Int → Int} (hi : ∀ a b, ρ a = ρ b → a = b) (most n own : Int) (st : SS) : varT most (ρ n) own (renS ρ st) = (renS ρ (varT most n own st).1, (varT most n own st).2) := by
  unfold varT
  rw [show look (renS ρ st).V (ρ n) = look st.V n from look_ren hi st.V n]
  cases look st.V n with
  | some c => rfl
  | none =>
    by_cases ho : own < 0
    · by_cases hl : (st.l.length : Int) < most <;> simp [renS, ho, hl]
    · simp [renS, ho]
theorem wordsT_ren (ρ : Int → Int) (most tag : Int) (ws : List Int) (st : SS) : wordsT most tag ws (renS ρ st) = (renS ρ (wordsT most tag ws st).1, (wordsT most tag ws st).2) := by
  unfold wordsT renS
  dsimp only
  split <;> rfl
theorem compT_ren (ρ : Int → Int) (most : Int) (s : ByteArray) (k : Nat) (st : SS) : compT most s k (renS ρ st) = (renS ρ (compT most s k st).1, (compT most s k st).2) := by
  unfold compT renS
  dsimp only
  split
  · rfl
  · split
    · split <;> rfl
    · rfl
mutual
theorem putT_ren {ρ : Int → Int} (hi : ∀ a b, ρ a = ρ b → a = b) (most : Int) : ∀ (t : CT) (own : Int) (st : SS), putT most (subst (ren ρ) t) own (renS ρ st) = (renS ρ (putT most t own st).1, (putT most t own st).2)
  | .var n, own, st => by simp only [subst, ren, putT]; exact varT_ren hi most n own st
  | .atom s, own, st => by simp only [subst, putT, renS]
  | .int n, own, st => by
    simp only [subst, putT]
    split
    · rfl
    · exact wordsT_ren ρ most 4 _ st
  | .cpx re im, own, st => by simp only [subst, putT]; exact wordsT_ren ρ most 5 _ st
  | .comp s args, own, st => by
    simp only [subst, putT]
    rw [substs_length, compT_ren]
    dsimp only
    split
    · rfl
    · rw [putArgs_ren hi most args]
theorem putArgs_ren {ρ : Int → Int} (hi : ∀ a b, ρ a = ρ b → a = b) (most : Int) : ∀ (l : List CT) (p : Nat) (st : SS), putArgs most (substs (ren ρ) l) p (renS ρ st) = (renS ρ (putArgs most l p st).1, (putArgs most l p st).2)
  | [], p, st => rfl
  | a :: rs, p, st => by
    simp only [substs, putArgs]
    rw [putT_ren hi most a]
    dsimp only
    split
    · rfl
    · have := putArgs_ren hi most rs (p + 1) { (putT most a p st).1 with l := (putT most a p st).1.l.set p (putT most a p st).2.1 }
      exact this
end
mutual
theorem nodes_ren (ρ : Int → Int) : ∀ t : CT, nodes (subst (ren ρ) t) = nodes t
  | .var n => rfl
  | .atom s => rfl
  | .int n => rfl
  | .cpx re im => rfl
  | .comp s args => by simp only [subst, nodes]; rw [nodesL_ren ρ args]
theorem nodesL_ren (ρ : Int → Int) : ∀ l : List CT, nodesL (substs (ren ρ) l) = nodesL l
  | [] => rfl
  | t :: ts => by simp only [substs, nodesL]; rw [nodes_ren ρ t, nodesL_ren ρ ts]
end
mutual
theorem depth_ren (ρ : Int → Int) : ∀ t : CT, depth (subst (ren ρ) t) = depth t
  | .var n => rfl
  | .atom s => rfl
  | .int n => rfl
  | .cpx re im => rfl
  | .comp s args => by simp only [subst, depth]; rw [depthL_ren ρ args]
theorem depthL_ren (ρ : Int → Int) : ∀ l : List CT, depthL (substs (ren ρ) l) = depthL l
  | [] => rfl
  | t :: ts => by simp only [substs, depthL]; rw [depth_ren ρ t, depthL_ren ρ ts]
end
mutual
theorem fine_ren {ρ : Int → Int} : ∀ t : CT, (∀ n, occ n t → 0 ≤ ρ n) → fine t → fine (subst (ren ρ) t)
  | .var n, h, _ => h n rfl
  | .atom s, _, h => h
  | .int n, _, _ => trivial
  | .cpx re im, _, _ => trivial
  | .comp s args, h, hf => by
    obtain ⟨h1, h2, h3, h4⟩ := hf
    refine ⟨h1, ?_, ?_, fines_ren args h h4⟩ <;> rw [substs_length] <;> assumption
theorem fines_ren {ρ : Int → Int} : ∀ l : List CT, (∀ n, occs n l → 0 ≤ ρ n) → fines l → fines (substs (ren ρ) l)
  | [], _, _ => trivial
  | t :: ts, h, hf => ⟨fine_ren t (fun n hn => h n (Or.inl hn)) hf.1, fines_ren ts (fun n hn => h n (Or.inr hn)) hf.2⟩
end
mutual
theorem ranged_ren {ρ : Int → Int} : ∀ t : CT, ranged t → ranged (subst (ren ρ) t)
  | .var n, _ => trivial
  | .atom s, h => h
  | .int n, h => h
  | .cpx re im, h => h
  | .comp s args, h => rangeds_ren args h
theorem rangeds_ren {ρ : Int → Int} : ∀ l : List CT, rangeds l → rangeds (substs (ren ρ) l)
  | [], _ => trivial
  | t :: ts, h => ⟨ranged_ren t h.1, rangeds_ren ts h.2⟩
end
mutual
theorem occ_fine : ∀ (t : CT) (n : Int), fine t → occ n t → 0 ≤ n
  | .var m, n, h, ho => by have e : n = m := ho; rw [e]; exact h
  | .atom _, _, _, h => h.elim
  | .int _, _, _, h => h.elim
  | .cpx _ _, _, _, h => h.elim
  | .comp s args, n, h, ho => occs_fine args n h.2.2.2 ho
theorem occs_fine : ∀ (l : List CT) (n : Int), fines l → occs n l → 0 ≤ n
  | [], _, _, h => h.elim
  | t :: ts, n, h, ho => ho.elim (occ_fine t n h.1) (occs_fine ts n h.2)
end
/-- Each variable is met. -/
theorem varsF_occ : ∀ (t : Tm), Kinds t → (∀ (L : List Int) (n : Int), n ∈ L → n ∈ varsF t L) ∧ (∀ (L : List Int) (n : Int), occ n (cl t) → n ∈ varsF t L) := by
  refine Tm.ind ?_
  intro k s n re im args ih hk
  have hk15 : 1 ≤ k ∧ k ≤ 5 := by cases hk <;> omega
  rcases cl_cases k s n re im args hk15.1 hk15.2 with ⟨rfl, e⟩ | ⟨rfl, e⟩ | ⟨rfl, e⟩ | ⟨rfl, e⟩ | ⟨rfl, e⟩
  · rw [e]
    refine ⟨fun L m hm => ?_, fun L m hm => ?_⟩
    · unfold varsF; rw [if_pos rfl]; split
      · exact hm
      · simp [hm]
    · have hm' : m = n := hm
      subst hm'
      unfold varsF; rw [if_pos rfl]; split
      · assumption
      · simp
  · rw [e]; exact ⟨fun L m hm => by unfold varsF; simpa using hm, fun L m hm => hm.elim⟩
  · rw [e]; exact ⟨fun L m hm => by unfold varsF; simpa using hm, fun L m hm => hm.elim⟩
  · rw [e]; exact ⟨fun L m hm => by unfold varsF; simpa using hm, fun L m hm => hm.elim⟩
  · rw [e]
    have hka := kinds_args hk rfl
    have key : ∀ l : List Tm, (∀ a ∈ l, a ∈ args) → (∀ (L : List Int) (m : Int), m ∈ L → m ∈ varsFs l L) ∧ (∀ (L : List Int) (m : Int), occs m (cls l) → m ∈ varsFs l L) := by
      intro l
      induction l with
      | nil => intro _; exact ⟨fun L m hm => hm, fun L m hm => hm.elim⟩
      | cons a l ih2 =>
        intro hl
        have ha : a ∈ args := hl a (by simp)
        obtain ⟨i1, i2⟩ := ih a ha (hka a ha)
        obtain ⟨j1, j2⟩ := ih2 (fun x hx => hl x (by simp [hx]))
        refine ⟨fun L m hm => by rw [varsFs_cons]; exact j1 _ m (i1 L m hm), fun L m hm => ?_⟩
        rw [varsFs_cons]
        rcases hm with hm | hm
        · exact j1 _ m (i2 L m hm)
        · exact j2 _ m hm
    obtain ⟨k1, k2⟩ := key args (fun _ h => h)
    refine ⟨fun L m hm => ?_, fun L m hm => ?_⟩
    · unfold varsF; rw [if_neg (by decide), if_pos rfl]; exact k1 L m hm
    · unfold varsF; rw [if_neg (by decide), if_pos rfl]; exact k2 L m hm
theorem nvF_nodes : ∀ (t : Tm), Kinds t → nvF t ≤ nodes (cl t) := by
  refine Tm.ind ?_
  intro k s n re im args ih hk
  have hk15 : 1 ≤ k ∧ k ≤ 5 := by cases hk <;> omega
  rcases cl_cases k s n re im args hk15.1 hk15.2 with ⟨rfl, e⟩ | ⟨rfl, e⟩ | ⟨rfl, e⟩ | ⟨rfl, e⟩ | ⟨rfl, e⟩
  · rw [e]; unfold nvF; simp [nodes]
  · rw [e]; unfold nvF; simp [nodes]
  · rw [e]; unfold nvF; simp [nodes]
  · rw [e]; unfold nvF; simp [nodes]
  · rw [e]
    have hka := kinds_args hk rfl
    have key : ∀ l : List Tm, (∀ a ∈ l, a ∈ args) → nvFs l ≤ nodesL (cls l) := by
      intro l
      induction l with
      | nil => intro _; exact Nat.le_refl _
      | cons a l ih2 =>
        intro hl
        have ha : a ∈ args := hl a (by simp)
        have h1 := ih a ha (hka a ha)
        have h2 := ih2 (fun x hx => hl x (by simp [hx]))
        rw [nvFs_cons]
        show _ ≤ nodes (cl a) + nodesL (cls l)
        omega
    have h1 := key args (fun _ h => h)
    unfold nvF
    rw [if_neg (by decide), if_pos rfl]
    simp only [nodes]
    omega
/-- The law, in plain terms. -/
theorem alike_law (t : Tm) (by_ : Int) (g : Int → CT) (hm : mayE t = 0) (hr : ranged (cl t)) (hb0 : 0 ≤ by_) (hg : ∀ n, 0 ≤ n → n ≤ 1099511627776 → g n = .var (n + by_)) (hv : ∀ n ∈ varsF t [], n ≤ 1099511627776) :
    mayE (un (subst g (cl t))) = 0 ∧ ∃ l L1 L2 V1 V2 c, putR 1048576 t ⟨[], names0, []⟩ = (⟨l, L1, V1⟩, c, 0) ∧ putR 1048576 (un (subst g (cl t))) ⟨[], names0, []⟩ = (⟨l, L2, V2⟩, c, 0) := by
  obtain ⟨hk, hf, hd, hn⟩ := mayE_zero.1 hm
  have hocc : ∀ n, occ n (cl t) → 0 ≤ n ∧ n ≤ 1099511627776 := fun n ho => ⟨occ_fine _ n hf ho, hv n ((varsF_occ t hk).2 [] n ho)⟩
  have hs : subst g (cl t) = subst (ren (· + by_)) (cl t) := subst_congr _ (fun n ho => hg n (hocc n ho).1 (hocc n ho).2)
  rw [hs]
  have hgood : Good (subst (ren (· + by_)) (cl t)) := by
    refine ⟨fine_ren _ (fun n ho => ?_) hf, ?_, ?_⟩
    · have := (hocc n ho).1; show 0 ≤ n + by_; omega
    · rw [depth_ren]; exact hd
    · rw [nodes_ren]; exact hn
  have hm2 := mayE_un hgood
  refine ⟨hm2, ?_⟩
  obtain ⟨W, E, M, h1, e1⟩ := put0_ok 1048576 t hm hr (by decide)
  obtain ⟨W', E', M', h2, e2⟩ := put0_ok 1048576 (un (subst (ren (· + by_)) (cl t))) hm2 (by rw [cl_un]; exact ranged_ren _ hr) (by decide)
  have e3 := putT_ren (ρ := (· + by_)) (fun a b h => by have h' : a + by_ = b + by_ := h; omega) 1048576 (cl t) (-1) ⟨[], names0, []⟩
  rw [e1, e2, cl_un]
  rw [cl_un] at h2
  have e4 : renS (· + by_) ⟨[], names0, []⟩ = ⟨[], names0, []⟩ := rfl
  rw [e4] at e3
  have he := h1.err
  rw [e3]
  generalize putT 1048576 (cl t) (-1) ⟨[], names0, []⟩ = P at *
  obtain ⟨⟨l, L, V⟩, c, er⟩ := P
  have he' : er = 0 := he
  subst he'
  exact ⟨l, L, L, V, _, c, rfl, rfl⟩

end Go.Proofs.Ytlmcfclonncgbaa
