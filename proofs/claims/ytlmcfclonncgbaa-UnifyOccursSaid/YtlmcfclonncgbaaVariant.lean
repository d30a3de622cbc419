/- The reference's Variant (package elenchusref1), of terms that may be. -/
import Derived.Test.YtlmcfclonncgbaaLike
import Derived.Test.YtlmcfclonncgbaaPk8
import Derived.Test.YtlmcfclonncgbaaPk3
namespace Go.Proofs.Ytlmcfclonncgbaa
open Go.RowKit
set_option linter.unusedVariables false
set_option linter.unusedSimpArgs false

set_option maxHeartbeats 1600000 in
set_option maxRecDepth 100000 in
theorem variant_any (a : Tm) (sa : Value) (b : Tm) (sb : Value) (own : Nat → Nat) (w : World) (h : TmS own w a sa) (h2 : TmS own w b sb) (hma : mayE a = 0) (hmb : mayE b = 0) :
    Calls Try.prog 43 #[valT a sa, valT b sb] w (Does own [] w fun own' e w' => e = .returned (.bool (likeB (un (canon (cl a))) (un (canon (cl b)))))) := by
  obtain ⟨A, len, cap, rfl, hL⟩ := h.args
  obtain ⟨A2, len2, cap2, rfl, hL2⟩ := h2.args
  have ea : valT a (.slice A len cap) = .agg #[.int .i64 a.kind, .string a.name, .int .i64 a.int, .int .u64 a.re, .int .u64 a.im, .slice A len cap] := rfl
  have eb : valT b (.slice A2 len2 cap2) = .agg #[.int .i64 b.kind, .string b.name, .int .i64 b.int, .int .u64 b.re, .int .u64 b.im, .slice A2 len2 cap2] := rfl
  rw [ea, eb]
  obtain ⟨x1, kb, y1⟩ := (Ext.refl own [] w).box [.int .i64 a.kind, .string a.name, .int .i64 a.int, .int .u64 a.re, .int .u64 a.im, .slice A len cap] 25 0
  obtain ⟨x2, kb2, y2⟩ := x1.box [.int .i64 b.kind, .string b.name, .int .i64 b.int, .int .u64 b.re, .int .u64 b.im, .slice A2 len2 cap2] 25 0
  have hTa3 := TmS.keep y2 (by simp) a _ (TmS.keep y1 (by simp) a _ h)
  have hTb3 := TmS.keep y2 (by simp) b _ (TmS.keep y1 (by simp) b _ h2)
  have ka3 := kb.keep y2 (by simp)
  have kb3 := kb2
  have X3 := x2
  simp only [World.size_alloc] at kb3 ka3 hTa3 hTb3 X3
  generalize _root_.Go.Proofs.Ytlmcfclonncgbaa.give (_root_.Go.Proofs.Ytlmcfclonncgbaa.give own w.heap.size 0) (w.heap.size + 1) 0 = own3 at *
  have ha' : (mayE a == 0) = true := by simpa using hma
  have hb' : (mayE b == 0) = true := by simpa using hmb
  have hna : nvF a ≤ 1000000 := by have := nvF_nodes a (mayE_zero.1 hma).1; have := (mayE_zero.1 hma).2.2.2; omega
  have hnb : nvF b ≤ 1000000 := by have := nvF_nodes b (mayE_zero.1 hmb).1; have := (mayE_zero.1 hmb).2.2.2; omega
  obtain ⟨ca, hca0⟩ : ∃ c, canon (cl a) = c := ⟨_, rfl⟩
  obtain ⟨cb, hcb0⟩ : ∃ c, canon (cl b) = c := ⟨_, rfl⟩
  have hca : subst (numG (numV (varsF a []) 0)) (cl a) = ca := by rw [canon_named (mayE_zero.1 hma).1, hca0]
  have hcb : subst (numG (numV (varsF b []) 0)) (cl b) = cb := by rw [canon_named (mayE_zero.1 hmb).1, hcb0]
  rw [hca0, hcb0]
  obtain ⟨W3, hW3⟩ : ∃ W, (w.alloc (.cells #[.int .i64 a.kind, .string a.name, .int .i64 a.int, .int .u64 a.re, .int .u64 a.im, .slice A len cap] 25)).alloc (.cells #[.int .i64 b.kind, .string b.name, .int .i64 b.int, .int .u64 b.re, .int .u64 b.im, .slice A2 len2 cap2] 25) = W := ⟨_, rfl⟩
  change Blk own3 0 ((w.alloc (.cells #[.int .i64 a.kind, .string a.name, .int .i64 a.int, .int .u64 a.re, .int .u64 a.im, .slice A len cap] 25)).alloc (.cells #[.int .i64 b.kind, .string b.name, .int .i64 b.int, .int .u64 b.re, .int .u64 b.im, .slice A2 len2 cap2] 25)) _ _ _ at ka3
  change Blk own3 0 ((w.alloc (.cells #[.int .i64 a.kind, .string a.name, .int .i64 a.int, .int .u64 a.re, .int .u64 a.im, .slice A len cap] 25)).alloc (.cells #[.int .i64 b.kind, .string b.name, .int .i64 b.int, .int .u64 b.re, .int .u64 b.im, .slice A2 len2 cap2] 25)) _ _ _ at kb3
  change TmS own3 ((w.alloc (.cells #[.int .i64 a.kind, .string a.name, .int .i64 a.int, .int .u64 a.re, .int .u64 a.im, .slice A len cap] 25)).alloc (.cells #[.int .i64 b.kind, .string b.name, .int .i64 b.int, .int .u64 b.re, .int .u64 b.im, .slice A2 len2 cap2] 25)) _ _ at hTa3
  change TmS own3 ((w.alloc (.cells #[.int .i64 a.kind, .string a.name, .int .i64 a.int, .int .u64 a.re, .int .u64 a.im, .slice A len cap] 25)).alloc (.cells #[.int .i64 b.kind, .string b.name, .int .i64 b.int, .int .u64 b.re, .int .u64 b.im, .slice A2 len2 cap2] 25)) _ _ at hTb3
  change Ext own own3 [] w ((w.alloc (.cells #[.int .i64 a.kind, .string a.name, .int .i64 a.int, .int .u64 a.re, .int .u64 a.im, .slice A len cap] 25)).alloc (.cells #[.int .i64 b.kind, .string b.name, .int .i64 b.int, .int .u64 b.re, .int .u64 b.im, .slice A2 len2 cap2] 25)) at X3
  rw [hW3] at ka3 kb3 hTa3 hTb3 X3
  replace ka3 := ka3.keep (Ext.refl own3 [] W3).drew (by simp)
  replace kb3 := kb3.keep (Ext.refl own3 [] W3).drew (by simp)
  replace hTa3 := TmS.keep (Ext.refl own3 [] W3).drew (by simp) a _ hTa3
  replace hTb3 := TmS.keep (Ext.refl own3 [] W3).drew (by simp) b _ hTb3
  replace X3 := X3.trans (Ext.refl own3 [] W3).drew
  clear h h2 hL hL2 x1 x2 y1 y2 kb kb2 hca0 hcb0
  have HS : W3.drew.cell? ⟨w.heap.size, 0, none⟩ = some (.int .i64 a.kind) ∧ W3.drew.cell? ⟨w.heap.size, 1, none⟩ = some (.string a.name) ∧ W3.drew.cell? ⟨w.heap.size, 2, none⟩ = some (.int .i64 a.int) ∧ W3.drew.cell? ⟨w.heap.size, 3, none⟩ = some (.int .u64 a.re) ∧ W3.drew.cell? ⟨w.heap.size, 4, none⟩ = some (.int .u64 a.im) ∧ W3.drew.cell? ⟨w.heap.size, 5, none⟩ = some (.slice A len cap) ∧ W3.drew.cell? ⟨w.heap.size + 1, 0, none⟩ = some (.int .i64 b.kind) ∧ W3.drew.cell? ⟨w.heap.size + 1, 1, none⟩ = some (.string b.name) ∧ W3.drew.cell? ⟨w.heap.size + 1, 2, none⟩ = some (.int .i64 b.int) ∧ W3.drew.cell? ⟨w.heap.size + 1, 3, none⟩ = some (.int .u64 b.re) ∧ W3.drew.cell? ⟨w.heap.size + 1, 4, none⟩ = some (.int .u64 b.im) ∧ W3.drew.cell? ⟨w.heap.size + 1, 5, none⟩ = some (.slice A2 len2 cap2) := ⟨ka3.cell 0 rfl, ka3.cell 1 rfl, ka3.cell 2 rfl, ka3.cell 3 rfl, ka3.cell 4 rfl, ka3.cell 5 rfl, kb3.cell 0 rfl, kb3.cell 1 rfl, kb3.cell 2 rfl, kb3.cell 3 rfl, kb3.cell 4 rfl, kb3.cell 5 rfl⟩
  go_enter Try.func43, Try.ntmps43
  go_wp2_with fail
  refine wp_calmN ?_
  refine wp_region_till 12 (fun W => W.cell? ⟨w.heap.size, 0, none⟩ = some (.int .i64 a.kind) ∧ W.cell? ⟨w.heap.size, 1, none⟩ = some (.string a.name) ∧ W.cell? ⟨w.heap.size, 2, none⟩ = some (.int .i64 a.int) ∧ W.cell? ⟨w.heap.size, 3, none⟩ = some (.int .u64 a.re) ∧ W.cell? ⟨w.heap.size, 4, none⟩ = some (.int .u64 a.im) ∧ W.cell? ⟨w.heap.size, 5, none⟩ = some (.slice A len cap) ∧ W.cell? ⟨w.heap.size + 1, 0, none⟩ = some (.int .i64 b.kind) ∧ W.cell? ⟨w.heap.size + 1, 1, none⟩ = some (.string b.name) ∧ W.cell? ⟨w.heap.size + 1, 2, none⟩ = some (.int .i64 b.int) ∧ W.cell? ⟨w.heap.size + 1, 3, none⟩ = some (.int .u64 b.re) ∧ W.cell? ⟨w.heap.size + 1, 4, none⟩ = some (.int .u64 b.im) ∧ W.cell? ⟨w.heap.size + 1, 5, none⟩ = some (.slice A2 len2 cap2)) (by kernel_rfl) ?_
  refine wpTill_one 0 rfl (by kernel_rfl) rfl (fun K hK => ?_)
  go_simp
  refine hK.out _ _ (fun _ => HS) ?_
  clear hK K
  try simp only [Act.put, List.setIfInBounds_toArray, List.set_cons_zero, List.set_cons_succ, List.getElem_toArray, List.getElem_cons_succ, List.getElem_cons_zero]
  refine wpTill_one 1 rfl (by kernel_rfl) rfl (fun K hK => ?_)
  go_simp
  have hc := rmay_any a _ own3 _ hTa3
  rw [ea] at hc
  refine hc.mono ?_
  rintro e4 w4 ⟨own4, x4, rfl⟩
  have hTa4 := TmS.keep x4 (by simp) a _ hTa3
  have hTb4 := TmS.keep x4 (by simp) b _ hTb3
  have ka4 := ka3.keep x4 (by simp)
  have kb4 := kb3.keep x4 (by simp)
  have X4 := X3.trans x4
  refine hK.out _ _ (fun _ => ⟨ka4.cell 0 rfl, ka4.cell 1 rfl, ka4.cell 2 rfl, ka4.cell 3 rfl, ka4.cell 4 rfl, ka4.cell 5 rfl, kb4.cell 0 rfl, kb4.cell 1 rfl, kb4.cell 2 rfl, kb4.cell 3 rfl, kb4.cell 4 rfl, kb4.cell 5 rfl⟩) ?_
  clear hK K
  try simp only [Act.put, List.setIfInBounds_toArray, List.set_cons_zero, List.set_cons_succ, List.getElem_toArray, List.getElem_cons_succ, List.getElem_cons_zero]
  have HS : w4.cell? ⟨w.heap.size, 0, none⟩ = some (.int .i64 a.kind) ∧ w4.cell? ⟨w.heap.size, 1, none⟩ = some (.string a.name) ∧ w4.cell? ⟨w.heap.size, 2, none⟩ = some (.int .i64 a.int) ∧ w4.cell? ⟨w.heap.size, 3, none⟩ = some (.int .u64 a.re) ∧ w4.cell? ⟨w.heap.size, 4, none⟩ = some (.int .u64 a.im) ∧ w4.cell? ⟨w.heap.size, 5, none⟩ = some (.slice A len cap) ∧ w4.cell? ⟨w.heap.size + 1, 0, none⟩ = some (.int .i64 b.kind) ∧ w4.cell? ⟨w.heap.size + 1, 1, none⟩ = some (.string b.name) ∧ w4.cell? ⟨w.heap.size + 1, 2, none⟩ = some (.int .i64 b.int) ∧ w4.cell? ⟨w.heap.size + 1, 3, none⟩ = some (.int .u64 b.re) ∧ w4.cell? ⟨w.heap.size + 1, 4, none⟩ = some (.int .u64 b.im) ∧ w4.cell? ⟨w.heap.size + 1, 5, none⟩ = some (.slice A2 len2 cap2) := ⟨ka4.cell 0 rfl, ka4.cell 1 rfl, ka4.cell 2 rfl, ka4.cell 3 rfl, ka4.cell 4 rfl, ka4.cell 5 rfl, kb4.cell 0 rfl, kb4.cell 1 rfl, kb4.cell 2 rfl, kb4.cell 3 rfl, kb4.cell 4 rfl, kb4.cell 5 rfl⟩
  refine wpTill_free 2 (v := ?_) rfl (by kernel_rfl) (by kernel_rfl) (by kernel_rfl) (by kernel_rfl) (fun _ _ _ h => h) rfl (fun _ => HS) ?_ ?_
  rotate_left 1
  · intro w; go_simp; try with_reducible rfl
  try simp only [Act.put, List.setIfInBounds_toArray, List.set_cons_zero, List.set_cons_succ, List.getElem_toArray, List.getElem_cons_succ, List.getElem_cons_zero]
  refine wpTill_free 3 (v := ?_) rfl (by kernel_rfl) (by kernel_rfl) (by kernel_rfl) (by kernel_rfl) (fun _ _ _ h => h) rfl (fun _ => HS) ?_ ?_
  rotate_left 1
  · intro w; go_simp; try with_reducible rfl
  try simp only [Act.put, List.setIfInBounds_toArray, List.set_cons_zero, List.set_cons_succ, List.getElem_toArray, List.getElem_cons_succ, List.getElem_cons_zero]
  refine wpTill_one 4 rfl (by kernel_rfl) rfl (fun K hK => ?_)
  go_simp
  refine hK.out _ _ (fun _ => HS) ?_
  clear hK K
  try simp only [Act.put, List.setIfInBounds_toArray, List.set_cons_zero, List.set_cons_succ, List.getElem_toArray, List.getElem_cons_succ, List.getElem_cons_zero]
  refine wpTill_one 5 rfl (by kernel_rfl) rfl (fun K hK => ?_)
  go_simp
  have hc := rmay_any b _ own4 _ hTb4
  rw [eb] at hc
  refine hc.mono ?_
  rintro e5 w5 ⟨own5, x5, rfl⟩
  have hTa5 := TmS.keep x5 (by simp) a _ hTa4
  have hTb5 := TmS.keep x5 (by simp) b _ hTb4
  have ka5 := ka4.keep x5 (by simp)
  have kb5 := kb4.keep x5 (by simp)
  have X5 := X4.trans x5
  refine hK.out _ _ (fun _ => ⟨ka5.cell 0 rfl, ka5.cell 1 rfl, ka5.cell 2 rfl, ka5.cell 3 rfl, ka5.cell 4 rfl, ka5.cell 5 rfl, kb5.cell 0 rfl, kb5.cell 1 rfl, kb5.cell 2 rfl, kb5.cell 3 rfl, kb5.cell 4 rfl, kb5.cell 5 rfl⟩) ?_
  clear hK K
  try simp only [Act.put, List.setIfInBounds_toArray, List.set_cons_zero, List.set_cons_succ, List.getElem_toArray, List.getElem_cons_succ, List.getElem_cons_zero]
  have HS : w5.cell? ⟨w.heap.size, 0, none⟩ = some (.int .i64 a.kind) ∧ w5.cell? ⟨w.heap.size, 1, none⟩ = some (.string a.name) ∧ w5.cell? ⟨w.heap.size, 2, none⟩ = some (.int .i64 a.int) ∧ w5.cell? ⟨w.heap.size, 3, none⟩ = some (.int .u64 a.re) ∧ w5.cell? ⟨w.heap.size, 4, none⟩ = some (.int .u64 a.im) ∧ w5.cell? ⟨w.heap.size, 5, none⟩ = some (.slice A len cap) ∧ w5.cell? ⟨w.heap.size + 1, 0, none⟩ = some (.int .i64 b.kind) ∧ w5.cell? ⟨w.heap.size + 1, 1, none⟩ = some (.string b.name) ∧ w5.cell? ⟨w.heap.size + 1, 2, none⟩ = some (.int .i64 b.int) ∧ w5.cell? ⟨w.heap.size + 1, 3, none⟩ = some (.int .u64 b.re) ∧ w5.cell? ⟨w.heap.size + 1, 4, none⟩ = some (.int .u64 b.im) ∧ w5.cell? ⟨w.heap.size + 1, 5, none⟩ = some (.slice A2 len2 cap2) := ⟨ka5.cell 0 rfl, ka5.cell 1 rfl, ka5.cell 2 rfl, ka5.cell 3 rfl, ka5.cell 4 rfl, ka5.cell 5 rfl, kb5.cell 0 rfl, kb5.cell 1 rfl, kb5.cell 2 rfl, kb5.cell 3 rfl, kb5.cell 4 rfl, kb5.cell 5 rfl⟩
  refine wpTill_free 6 (v := ?_) rfl (by kernel_rfl) (by kernel_rfl) (by kernel_rfl) (by kernel_rfl) (fun _ _ _ h => h) rfl (fun _ => HS) ?_ ?_
  rotate_left 1
  · intro w; go_simp; try with_reducible rfl
  try simp only [Act.put, List.setIfInBounds_toArray, List.set_cons_zero, List.set_cons_succ, List.getElem_toArray, List.getElem_cons_succ, List.getElem_cons_zero]
  refine wpTill_free 7 (v := ?_) rfl (by kernel_rfl) (by kernel_rfl) (by kernel_rfl) (by kernel_rfl) (fun _ _ _ h => h) rfl (fun _ => HS) ?_ ?_
  rotate_left 1
  · intro w; go_simp; try with_reducible rfl
  try simp only [Act.put, List.setIfInBounds_toArray, List.set_cons_zero, List.set_cons_succ, List.getElem_toArray, List.getElem_cons_succ, List.getElem_cons_zero]
  refine wpTill_free 8 (v := ?_) rfl (by kernel_rfl) (by kernel_rfl) (by kernel_rfl) (by kernel_rfl) (fun _ _ _ h => h) rfl (fun _ => HS) ?_ ?_
  rotate_left 1
  · intro w; go_simp; try with_reducible rfl
  try simp only [Act.put, List.setIfInBounds_toArray, List.set_cons_zero, List.set_cons_succ, List.getElem_toArray, List.getElem_cons_succ, List.getElem_cons_zero]
  refine wpTill_take 11 (v := ?_) rfl (by kernel_rfl) (by kernel_rfl) (by kernel_rfl) (by kernel_rfl) (by kernel_rfl) (fun _ _ _ h => h) rfl HS ?_ ?_
  rotate_left 1
  · intro w hSw; go_split_ands; go_simp; try with_reducible rfl
  try simp only [Act.put, List.setIfInBounds_toArray, List.set_cons_zero, List.set_cons_succ, List.getElem_toArray, List.getElem_cons_succ, List.getElem_cons_zero]
  refine wpTill_one 9 rfl (by kernel_rfl) rfl (fun K hK => ?_)
  go_simp
  refine hK.out _ _ (fun _ => HS) ?_
  clear hK K
  try simp only [Act.put, List.setIfInBounds_toArray, List.set_cons_zero, List.set_cons_succ, List.getElem_toArray, List.getElem_cons_succ, List.getElem_cons_zero]
  refine wpTill_one 10 rfl (by kernel_rfl) rfl (fun K hK => ?_)
  go_simp
  have hc := rename_any a _ own5 _ hTa5 hma hna
  rw [ea, hca] at hc
  refine hc.mono ?_
  rintro e6 w6 ⟨own6, x6, A6, l6, cp6, (rfl : e6 = .returned (.agg #[.int .i64 (un ca).kind, .string (un ca).name, .int .i64 (un ca).int, .int .u64 (un ca).re, .int .u64 (un ca).im, .slice A6 l6 cp6])), hR6⟩
  have hTa6 := TmS.keep x6 (by simp) a _ hTa5
  have hTb6 := TmS.keep x6 (by simp) b _ hTb5
  have ka6 := ka5.keep x6 (by simp)
  have kb6 := kb5.keep x6 (by simp)
  have X6 := X5.trans x6
  refine hK.out _ _ (fun _ => ⟨ka6.cell 0 rfl, ka6.cell 1 rfl, ka6.cell 2 rfl, ka6.cell 3 rfl, ka6.cell 4 rfl, ka6.cell 5 rfl, kb6.cell 0 rfl, kb6.cell 1 rfl, kb6.cell 2 rfl, kb6.cell 3 rfl, kb6.cell 4 rfl, kb6.cell 5 rfl⟩) ?_
  clear hK K
  try simp only [Act.put, List.setIfInBounds_toArray, List.set_cons_zero, List.set_cons_succ, List.getElem_toArray, List.getElem_cons_succ, List.getElem_cons_zero]
  refine wpTill_one 12 rfl (by kernel_rfl) rfl (fun K hK => ?_)
  go_simp
  have hc := rename_any b _ own6 _ hTb6 hmb hnb
  rw [eb, hcb] at hc
  refine hc.mono ?_
  rintro e7 w7 ⟨own7, x7, A7, l7, cp7, (rfl : e7 = .returned (.agg #[.int .i64 (un cb).kind, .string (un cb).name, .int .i64 (un cb).int, .int .u64 (un cb).re, .int .u64 (un cb).im, .slice A7 l7 cp7])), hR7⟩
  have hTa7 := TmS.keep x7 (by simp) a _ hTa6
  have hTb7 := TmS.keep x7 (by simp) b _ hTb6
  have ka7 := ka6.keep x7 (by simp)
  have kb7 := kb6.keep x7 (by simp)
  have X7 := X6.trans x7
  refine hK.out _ _ (Till.gone (by kernel_rfl)) ?_
  clear hK K
  try simp only [Act.put, List.setIfInBounds_toArray, List.set_cons_zero, List.set_cons_succ, List.getElem_toArray, List.getElem_cons_succ, List.getElem_cons_zero]
  have hRa := TmS.keep x7 (by simp) _ _ hR6
  refine wpTill_one 13 rfl (by kernel_rfl) rfl (fun K hK => ?_)
  go_simp
  have hc := like_any (un ca) (.slice A6 l6 cp6) (un cb) (.slice A7 l7 cp7) own7 _ hRa hR7
  refine Calls.mono hc ?_
  rintro e8 w8 ⟨own8, x8, rfl⟩
  refine hK.out _ _ (Till.gone (by kernel_rfl)) ?_
  clear hK K
  try simp only [Act.put, List.setIfInBounds_toArray, List.set_cons_zero, List.set_cons_succ, List.getElem_toArray, List.getElem_cons_succ, List.getElem_cons_zero]
  refine wpTill_free 14 (v := ?_) rfl (by kernel_rfl) (by kernel_rfl) (by kernel_rfl) (by kernel_rfl) (fun _ _ _ h => h) rfl (Till.gone (by kernel_rfl)) ?_ ?_
  rotate_left 1
  · intro w; go_simp; try with_reducible rfl
  try simp only [Act.put, List.setIfInBounds_toArray, List.set_cons_zero, List.set_cons_succ, List.getElem_toArray, List.getElem_cons_succ, List.getElem_cons_zero]
  refine wpTill_one 15 rfl (by kernel_rfl) rfl (fun K hK => ?_)
  go_simp
  refine hK.out _ _ (Till.gone (by kernel_rfl)) ?_
  clear hK K
  try simp only [Act.put, List.setIfInBounds_toArray, List.set_cons_zero, List.set_cons_succ, List.getElem_toArray, List.getElem_cons_succ, List.getElem_cons_zero]
  refine wpTill_done (by kernel_rfl) ?_ _
  go_wp2_with fail
  go_ret
  exact ⟨own8, X7.trans x8, rfl⟩

end Go.Proofs.Ytlmcfclonncgbaa
