/- The reference's plain (package elenchusref1): a term without what has no meaning. -/
import Derived.Test.YtlmcfclonncgbaaPk4
namespace Go.Proofs.Ytlmcfclonncgbaa
open Go.RowKit
set_option linter.unusedVariables false
set_option linter.unusedSimpArgs false

set_option maxHeartbeats 1600000 in
set_option maxRecDepth 100000 in
theorem plain_any : ∀ (t : Tm) (sl : Value) (own : Nat → Nat) (w : World), TmS own w t sl → Kinds t → (t.kind = 5 → t.args.length ≤ 20 ∧ ∀ a ∈ t.args, fine (cl a)) →
    Calls Try.prog 106 #[valT t sl] w (MadeT own w (cl t)) := by
  refine Tm.ind ?_
  intro k s n re im args ih sl own w h hk hf
  obtain ⟨A, len, cap, rfl, hL⟩ := h.args
  rw [valT_mk]
  have hrr := h.rng
  have hlen : args.length = len := hL.1
  have hk15 : 1 ≤ k ∧ k ≤ 5 := by cases hk <;> omega
  obtain ⟨F0, hF0, hFF⟩ := own_ne own w.heap.size
  obtain ⟨x1, kb, y1⟩ := (Ext.refl own [] w).box [.int .i64 k, .string s, .int .i64 n, .int .u64 re, .int .u64 im, .slice A len cap] 25 F0
  replace hL : TmL _ _ args A len cap := hL.keep y1 (by simp)
  have x2 := x1.alloc (.cells #[.int .i64 0, .string ByteArray.empty, .int .i64 0, .int .u64 0, .int .u64 0, .slice none 0 0] 25)
  generalize hown : _root_.Go.Proofs.Ytlmcfclonncgbaa.give own w.heap.size F0 = o1 at *
  have c0 := kb.cell 0 rfl
  have c1 := kb.cell 1 rfl
  have c2 := kb.cell 2 rfl
  have c3 := kb.cell 3 rfl
  have c4 := kb.cell 4 rfl
  have c5 := kb.cell 5 rfl
  rcases cl_cases k s n re im args hk15.1 hk15.2 with ⟨rfl, e⟩ | ⟨rfl, e⟩ | ⟨rfl, e⟩ | ⟨rfl, e⟩ | ⟨rfl, e⟩
  · rw [e]
    have HX := Lib.hid x1
    have klt := kb.lt
    clear x1 x2 y1 kb hL hFF ih h hown
    go_enter Try.func106, Try.ntmps106
    go_wp2_with fail
    (try simp only [Exit.inBlock, Exit.then])
    refine bodyPost_ret (v := .agg #[.int .i64 1, .string ByteArray.empty, .int .i64 n, .int .u64 0, .int .u64 0, .slice none 0 0]) ?_ rfl ?_
    · rw [results_cell1 rfl]
      go_simp
      try rfl
    · exact ⟨o1, (by repeat (first | exact HX.out | exact (HX.out).drew | refine Ext.alloc ?_ _ | refine Ext.drew ?_)), none, 0, 0, rfl, leaf_term (by unfold Rng; exact ⟨by decide, by first | exact hrr.2.1 | decide, by first | exact hrr.2.2.1 | decide, by first | exact hrr.2.2.2.1 | decide, by first | exact hrr.2.2.2.2 | decide⟩)⟩
  · rw [e]
    have HX := Lib.hid x1
    have klt := kb.lt
    clear x1 x2 y1 kb hL hFF ih h hown
    go_enter Try.func106, Try.ntmps106
    go_wp2_with fail
    (try simp only [Exit.inBlock, Exit.then])
    refine bodyPost_ret (v := .agg #[.int .i64 2, .string s, .int .i64 0, .int .u64 0, .int .u64 0, .slice none 0 0]) ?_ rfl ?_
    · rw [results_cell1 rfl]
      go_simp
      try rfl
    · exact ⟨o1, (by repeat (first | exact HX.out | exact (HX.out).drew | refine Ext.alloc ?_ _ | refine Ext.drew ?_)), none, 0, 0, rfl, leaf_term (by unfold Rng; exact ⟨by decide, by first | exact hrr.2.1 | decide, by first | exact hrr.2.2.1 | decide, by first | exact hrr.2.2.2.1 | decide, by first | exact hrr.2.2.2.2 | decide⟩)⟩
  · rw [e]
    have HX := Lib.hid x1
    have klt := kb.lt
    clear x1 x2 y1 kb hL hFF ih h hown
    go_enter Try.func106, Try.ntmps106
    go_wp2_with fail
    (try simp only [Exit.inBlock, Exit.then])
    refine bodyPost_ret (v := .agg #[.int .i64 3, .string ByteArray.empty, .int .i64 n, .int .u64 0, .int .u64 0, .slice none 0 0]) ?_ rfl ?_
    · rw [results_cell1 rfl]
      go_simp
      try rfl
    · exact ⟨o1, (by repeat (first | exact HX.out | exact (HX.out).drew | refine Ext.alloc ?_ _ | refine Ext.drew ?_)), none, 0, 0, rfl, leaf_term (by unfold Rng; exact ⟨by decide, by first | exact hrr.2.1 | decide, by first | exact hrr.2.2.1 | decide, by first | exact hrr.2.2.2.1 | decide, by first | exact hrr.2.2.2.2 | decide⟩)⟩
  · rw [e]
    have HX := Lib.hid x1
    have klt := kb.lt
    clear x1 x2 y1 kb hL hFF ih h hown
    go_enter Try.func106, Try.ntmps106
    go_wp2_with fail
    refine wp_calmN ?_
    refine wp_region_till 7 (fun W => W.cell? ⟨w.heap.size, 3, none⟩ = some (.int .u64 re) ∧ W.cell? ⟨w.heap.size, 4, none⟩ = some (.int .u64 im)) (by kernel_rfl) ?_
    have HS : _ ∧ _ := ⟨c3, c4⟩
    refine wpTill_free 0 (v := ?_) rfl (by kernel_rfl) (by kernel_rfl) (by kernel_rfl) (by kernel_rfl) (fun _ _ _ h => h) rfl (fun _ => (by constructor <;> go_simp)) ?_ ?_
    rotate_left 1
    · intro w; go_simp; try with_reducible rfl
    try simp only [Act.put, List.setIfInBounds_toArray, List.set_cons_zero, List.set_cons_succ, List.getElem_toArray, List.getElem_cons_succ, List.getElem_cons_zero]
    refine wpTill_take 1 (v := ?_) rfl (by kernel_rfl) (by kernel_rfl) (by kernel_rfl) (by kernel_rfl) (by kernel_rfl) (fun _ _ _ h => h) rfl (by constructor <;> go_simp) ?_ ?_
    rotate_left 1
    · intro w hSw; go_split_ands; go_simp; try with_reducible rfl
    try simp only [Act.put, List.setIfInBounds_toArray, List.set_cons_zero, List.set_cons_succ, List.getElem_toArray, List.getElem_cons_succ, List.getElem_cons_zero]
    refine wpTill_free 2 (v := ?_) rfl (by kernel_rfl) (by kernel_rfl) (by kernel_rfl) (by kernel_rfl) (fun _ _ _ h => h) rfl (fun _ => (by constructor <;> go_simp)) ?_ ?_
    rotate_left 1
    · intro w; go_simp; try with_reducible rfl
    try simp only [Act.put, List.setIfInBounds_toArray, List.set_cons_zero, List.set_cons_succ, List.getElem_toArray, List.getElem_cons_succ, List.getElem_cons_zero]
    refine wpTill_take 3 (v := ?_) rfl (by kernel_rfl) (by kernel_rfl) (by kernel_rfl) (by kernel_rfl) (by kernel_rfl) (fun _ _ _ h => h) rfl (by constructor <;> go_simp) ?_ ?_
    rotate_left 1
    · intro w hSw; go_split_ands; go_simp; try with_reducible rfl
    try simp only [Act.put, List.setIfInBounds_toArray, List.set_cons_zero, List.set_cons_succ, List.getElem_toArray, List.getElem_cons_succ, List.getElem_cons_zero]
    refine wpTill_free 4 (v := ?_) rfl (by kernel_rfl) (by kernel_rfl) (by kernel_rfl) (by kernel_rfl) (fun _ _ _ h => h) rfl (fun _ => (by constructor <;> go_simp)) ?_ ?_
    rotate_left 1
    · intro w; go_simp; try with_reducible rfl
    try simp only [Act.put, List.setIfInBounds_toArray, List.set_cons_zero, List.set_cons_succ, List.getElem_toArray, List.getElem_cons_succ, List.getElem_cons_zero]
    refine wpTill_one 5 rfl (by kernel_rfl) rfl (fun K hK => ?_)
    go_simp
    refine hK.out _ _ (fun _ => (by constructor <;> go_simp)) ?_
    clear hK K
    try simp only [Act.put, List.setIfInBounds_toArray, List.set_cons_zero, List.set_cons_succ, List.getElem_toArray, List.getElem_cons_succ, List.getElem_cons_zero]
    refine wpTill_free 6 (v := ?_) rfl (by kernel_rfl) (by kernel_rfl) (by kernel_rfl) (by kernel_rfl) (fun _ _ _ h => h) rfl (fun _ => (by constructor <;> go_simp)) ?_ ?_
    rotate_left 1
    · intro w; go_simp; try with_reducible rfl
    try simp only [Act.put, List.setIfInBounds_toArray, List.set_cons_zero, List.set_cons_succ, List.getElem_toArray, List.getElem_cons_succ, List.getElem_cons_zero]
    refine wpTill_one 7 rfl (by kernel_rfl) rfl (fun K hK => ?_)
    go_simp
    refine hK.out _ _ (Till.gone (by kernel_rfl)) ?_
    clear hK K
    try simp only [Act.put, List.setIfInBounds_toArray, List.set_cons_zero, List.set_cons_succ, List.getElem_toArray, List.getElem_cons_succ, List.getElem_cons_zero]
    refine wpTill_done (by kernel_rfl) ?_ _
    go_wp2_with fail
    (try simp only [Exit.inBlock, Exit.then])
    refine bodyPost_ret (v := .agg #[.int .i64 4, .string ByteArray.empty, .int .i64 0, .int .u64 re, .int .u64 im, .slice none 0 0]) ?_ rfl ?_
    · rw [results_cell1 rfl]
      go_simp
      try rfl
    · exact ⟨o1, (by repeat (first | exact HX.out | exact (HX.out).drew | refine Ext.alloc ?_ _ | refine Ext.drew ?_)), none, 0, 0, rfl, leaf_term (by unfold Rng; exact ⟨by decide, by first | exact hrr.2.1 | decide, by first | exact hrr.2.2.1 | decide, by first | exact hrr.2.2.2.1 | decide, by first | exact hrr.2.2.2.2 | decide⟩)⟩
  · rw [e]
    obtain ⟨hl20, hfa⟩ := hf rfl
    replace hl20 : args.length ≤ 20 := hl20
    replace hfa : ∀ a ∈ args, fine (cl a) := hfa
    have hka := kargs hk rfl
    have hlt0 : ∀ b, b < w.heap.size → own b < F0 := hFF
    obtain ⟨x2', kZ, yZ⟩ := x1.box [.int .i64 0, .string ByteArray.empty, .int .i64 0, .int .u64 0, .int .u64 0, .slice none 0 0] 25 (F0 + 4)
    generalize _root_.Go.Proofs.Ytlmcfclonncgbaa.give o1 (w.alloc (.cells #[.int .i64 5, .string s, .int .i64 n, .int .u64 re, .int .u64 im, .slice A len cap] 25)).heap.size (F0 + 4) = oZ at *
    simp only [World.size_alloc] at kZ
    obtain ⟨xo, kB, yo⟩ := x2'.box [.int .i64 5, .string s, .int .i64 0, .int .u64 0, .int .u64 0, .slice none 0 0] 25 (F0 + 1)
    have hL0 : TmL _ ((w.alloc (.cells #[.int .i64 5, .string s, .int .i64 n, .int .u64 re, .int .u64 im, .slice A len cap] 25)).alloc (.cells #[.int .i64 0, .string ByteArray.empty, .int .i64 0, .int .u64 0, .int .u64 0, .slice none 0 0] 25)) args A len cap := hL.keep yZ (by simp)
    replace hL0 : TmL _ _ args A len cap := hL0.keep yo (by simp)
    have kb2 := ((kb.keep yZ (by simp)).keep yo (by simp))
    replace kZ := kZ.keep yo (by simp)
    generalize _root_.Go.Proofs.Ytlmcfclonncgbaa.give oZ ((w.alloc (.cells #[.int .i64 5, .string s, .int .i64 n, .int .u64 re, .int .u64 im, .slice A len cap] 25)).alloc (.cells #[.int .i64 0, .string ByteArray.empty, .int .i64 0, .int .u64 0, .int .u64 0, .slice none 0 0] 25)).heap.size (F0 + 1) = o3 at *
    obtain ⟨W0, hW0⟩ : ∃ W0, ((w.alloc (.cells #[.int .i64 5, .string s, .int .i64 n, .int .u64 re, .int .u64 im, .slice A len cap] 25)).alloc (.cells #[.int .i64 0, .string ByteArray.empty, .int .i64 0, .int .u64 0, .int .u64 0, .slice none 0 0] 25)).alloc (.cells #[.int .i64 5, .string s, .int .i64 0, .int .u64 0, .int .u64 0, .slice none 0 0] 25) = W0 := ⟨_, rfl⟩
    change Blk o3 _ (((w.alloc (.cells #[.int .i64 5, .string s, .int .i64 n, .int .u64 re, .int .u64 im, .slice A len cap] 25)).alloc (.cells #[.int .i64 0, .string ByteArray.empty, .int .i64 0, .int .u64 0, .int .u64 0, .slice none 0 0] 25)).alloc (.cells #[.int .i64 5, .string s, .int .i64 0, .int .u64 0, .int .u64 0, .slice none 0 0] 25)) _ _ _ at kB
    change TmL o3 (((w.alloc (.cells #[.int .i64 5, .string s, .int .i64 n, .int .u64 re, .int .u64 im, .slice A len cap] 25)).alloc (.cells #[.int .i64 0, .string ByteArray.empty, .int .i64 0, .int .u64 0, .int .u64 0, .slice none 0 0] 25)).alloc (.cells #[.int .i64 5, .string s, .int .i64 0, .int .u64 0, .int .u64 0, .slice none 0 0] 25)) _ _ _ _ at hL0
    change Blk o3 _ (((w.alloc (.cells #[.int .i64 5, .string s, .int .i64 n, .int .u64 re, .int .u64 im, .slice A len cap] 25)).alloc (.cells #[.int .i64 0, .string ByteArray.empty, .int .i64 0, .int .u64 0, .int .u64 0, .slice none 0 0] 25)).alloc (.cells #[.int .i64 5, .string s, .int .i64 0, .int .u64 0, .int .u64 0, .slice none 0 0] 25)) _ _ _ at kb2
    change Ext own o3 [] w (((w.alloc (.cells #[.int .i64 5, .string s, .int .i64 n, .int .u64 re, .int .u64 im, .slice A len cap] 25)).alloc (.cells #[.int .i64 0, .string ByteArray.empty, .int .i64 0, .int .u64 0, .int .u64 0, .slice none 0 0] 25)).alloc (.cells #[.int .i64 5, .string s, .int .i64 0, .int .u64 0, .int .u64 0, .slice none 0 0] 25)) at xo
    simp only [World.size_alloc] at kB
    change Blk o3 _ (((w.alloc (.cells #[.int .i64 5, .string s, .int .i64 n, .int .u64 re, .int .u64 im, .slice A len cap] 25)).alloc (.cells #[.int .i64 0, .string ByteArray.empty, .int .i64 0, .int .u64 0, .int .u64 0, .slice none 0 0] 25)).alloc (.cells #[.int .i64 5, .string s, .int .i64 0, .int .u64 0, .int .u64 0, .slice none 0 0] 25)) _ _ _ at kZ
    rw [hW0] at kB hL0 kb2 xo kZ
    have HZ := Lib.hid kZ
    have d5 := kb2.cell 5 rfl
    have HL := Lib.hid (And.intro hL0 (And.intro hlen (And.intro hl20 (And.intro hfa hka))))
    have HO := Lib.hid (And.intro xo (And.intro kB hlt0))
    have HIH := Lib.hid ih
    have klt := kb.lt
    have hle := hL.2.1
    have HR := Lib.hid (show Rng 5 0 0 0 s from ⟨by decide, by decide, by decide, by decide, hrr.2.2.2.2⟩)
    have hlen20 : len ≤ 20 := by omega
    clear x1 x2 x2' y1 yo yZ kZ xo kB kb kb2 hL hL0 hFF hlt0 ih h hown hk hf hfa hka hrr hl20 hlen
    go_enter Try.func106, Try.ntmps106
    go_wp2_with fail
    go_loopw [38] (fun u wr => ∃ (l : List (Tm × Value)) (v : Value) (own' : Nat → Nat), u = .int .i64 l.length ∧ l.length ≤ len ∧ Ext o3 own' [F0 + 1, F0 + 2] W0 wr ∧ Blk own' (F0 + 1) wr (w.heap.size + 1 + 1) [.int .i64 5, .string s, .int .i64 0, .int .u64 0, .int .u64 0, v] 25 ∧ Row own' (F0 + 2) wr 25 6 v l.length (termCells l) ∧ (∀ z ∈ l, TmS own' wr z.1 z.2) ∧ l.map (·.1) = (args.take l.length).map (fun a => un (cl a))) (fun u _ => len - (intOf u).toNat)
    case atStart => subst hW0; exact ⟨[], _, o3, rfl, Nat.zero_le _, Ext.refl _ _ _, HO.out.2.1, Row.nil _ _ _ _ _, by simp, rfl⟩
    case round =>
      obtain ⟨l, v, own', rfl, hj, x, kB1, hr1, hT1, hmap⟩ := hrel
      by_cases hlt : l.length < len
      · have hLr := HL.out.1.keep x (by simp)
        obtain ⟨b, o, rfl⟩ := hLr.addr (by omega)
        obtain ⟨tt, sl, ht, hTt, e0, e1, e2, e3, e4, e5⟩ := hLr.at l.length hlt
        have hmem := List.mem_of_getElem? ht
        obtain ⟨A', l', cp', rfl, _⟩ := hTt.args
        obtain ⟨xb, kE, yE⟩ := x.box [.int .i64 tt.kind, .string tt.name, .int .i64 tt.int, .int .u64 tt.re, .int .u64 tt.im, .slice A' l' cp'] 25 (F0 + 3)
        have kB2 := kB1.keep yE (by simp)
        have hr2 := hr1.keep yE (by simp)
        have hT2 := fun z hz => TmS.keep yE (by simp) z.1 _ (hT1 z hz)
        have hTt2 := TmS.keep yE (by simp) tt _ hTt
        generalize _root_.Go.Proofs.Ytlmcfclonncgbaa.give own' wr.heap.size (F0 + 3) = o4 at *
        obtain ⟨W2, hW2⟩ : ∃ W2, wr.alloc (.cells #[.int .i64 tt.kind, .string tt.name, .int .i64 tt.int, .int .u64 tt.re, .int .u64 tt.im, .slice A' l' cp'] 25) = W2 := ⟨_, rfl⟩
        change Blk o4 _ (wr.alloc (.cells #[.int .i64 tt.kind, .string tt.name, .int .i64 tt.int, .int .u64 tt.re, .int .u64 tt.im, .slice A' l' cp'] 25)) _ _ _ at kE
        change Blk o4 _ (wr.alloc (.cells #[.int .i64 tt.kind, .string tt.name, .int .i64 tt.int, .int .u64 tt.re, .int .u64 tt.im, .slice A' l' cp'] 25)) _ _ _ at kB2
        change Row o4 _ (wr.alloc (.cells #[.int .i64 tt.kind, .string tt.name, .int .i64 tt.int, .int .u64 tt.re, .int .u64 tt.im, .slice A' l' cp'] 25)) _ _ _ _ _ at hr2
        change ∀ z ∈ l, TmS o4 (wr.alloc (.cells #[.int .i64 tt.kind, .string tt.name, .int .i64 tt.int, .int .u64 tt.re, .int .u64 tt.im, .slice A' l' cp'] 25)) z.1 z.2 at hT2
        change TmS o4 (wr.alloc (.cells #[.int .i64 tt.kind, .string tt.name, .int .i64 tt.int, .int .u64 tt.re, .int .u64 tt.im, .slice A' l' cp'] 25)) tt _ at hTt2
        change Ext o3 o4 _ W0 (wr.alloc (.cells #[.int .i64 tt.kind, .string tt.name, .int .i64 tt.int, .int .u64 tt.re, .int .u64 tt.im, .slice A' l' cp'] 25)) at xb
        rw [hW2] at kE kB2 hr2 hT2 hTt2 xb
        obtain ⟨A1, cp1, rfl, hcp⟩ := hr2.form
        have hTd : TmS o4 W2.drew tt (.slice A' l' cp') := TmS.keep (Ext.refl o4 [] W2).drew (by simp) tt _ hTt2
        have hcall := HIH.out tt hmem _ o4 W2.drew hTd (HL.out.2.2.2.2 tt hmem) (fine_slim (HL.out.2.2.2.1 tt hmem))
        rw [show valT tt (.slice A' l' cp') = .agg #[.int .i64 tt.kind, .string tt.name, .int .i64 tt.int, .int .u64 tt.re, .int .u64 tt.im, .slice A' l' cp'] from rfl] at hcall
        have HC := Lib.hid hcall
        have hstep := take_step (fun a => un (cl a)) args l.length tt ht
        rw [← hmap] at hstep
        have HM := Lib.hid hstep
        have HT2 := Lib.hid hT2
        have HS : W2.drew.cell? ⟨w.heap.size + 1 + 1, 5, none⟩ = some (.slice A1 l.length cp1) := kB2.cell 5 rfl
        have g0 : W2.drew.cell? ⟨wr.heap.size, 0, none⟩ = some (.int .i64 tt.kind) := kE.cell 0 rfl
        have g1 : W2.drew.cell? ⟨wr.heap.size, 1, none⟩ = some (.string tt.name) := kE.cell 1 rfl
        have g2 : W2.drew.cell? ⟨wr.heap.size, 2, none⟩ = some (.int .i64 tt.int) := kE.cell 2 rfl
        have g3 : W2.drew.cell? ⟨wr.heap.size, 3, none⟩ = some (.int .u64 tt.re) := kE.cell 3 rfl
        have g4 : W2.drew.cell? ⟨wr.heap.size, 4, none⟩ = some (.int .u64 tt.im) := kE.cell 4 rfl
        have g5 : W2.drew.cell? ⟨wr.heap.size, 5, none⟩ = some (.slice A' l' cp') := kE.cell 5 rfl
        have hl72 : (l.length + 1) * 72 ≤ 140737488355328 := by omega
        have HXB := Lib.hid xb
        clear hcall hstep hmap hT2 hT1 hTd hTt hTt2 hLr x kB1 hr1 xb yE kE ht hmem
        go_wp2_with fail
        refine wp_calmN ?_
        refine wp_region_till 5 (fun W => W.cell? ⟨w.heap.size + 1 + 1, 5, none⟩ = some (.slice A1 l.length cp1)) (by kernel_rfl) ?_
        refine wpTill_free 0 (v := ?_) rfl (by kernel_rfl) (by kernel_rfl) (by kernel_rfl) (by kernel_rfl) (fun _ _ _ h => h) rfl (fun _ => HS) ?_ ?_
        rotate_left 1
        · intro w; go_simp; try with_reducible rfl
        try simp only [Act.put, List.setIfInBounds_toArray, List.set_cons_zero, List.set_cons_succ, List.getElem_toArray, List.getElem_cons_succ, List.getElem_cons_zero]
        refine wpTill_take 1 (v := ?_) rfl (by kernel_rfl) (by kernel_rfl) (by kernel_rfl) (by kernel_rfl) (by kernel_rfl) (fun _ _ _ h => h) rfl HS ?_ ?_
        rotate_left 1
        · intro w hSw; go_split_ands; go_simp; try with_reducible rfl
        try simp only [Act.put, List.setIfInBounds_toArray, List.set_cons_zero, List.set_cons_succ, List.getElem_toArray, List.getElem_cons_succ, List.getElem_cons_zero]
        refine wpTill_one 2 rfl (by kernel_rfl) rfl (fun K hK => ?_)
        go_simp
        refine hK.out _ _ (fun _ => HS) ?_
        clear hK K
        try simp only [Act.put, List.setIfInBounds_toArray, List.set_cons_zero, List.set_cons_succ, List.getElem_toArray, List.getElem_cons_succ, List.getElem_cons_zero]
        refine wpTill_one 3 rfl (by kernel_rfl) rfl (fun K hK => ?_)
        go_simp
        refine Calls.mono HC.out ?_
        rintro e w3 ⟨own3, x3, A3, l3, cp3, (rfl : e = .returned (.agg #[.int .i64 (un (cl tt)).kind, .string (un (cl tt)).name, .int .i64 (un (cl tt)).int, .int .u64 (un (cl tt)).re, .int .u64 (un (cl tt)).im, .slice A3 l3 cp3])), hTn⟩
        replace x3 := x3.ofDraw
        have kB3 := kB2.keep x3 (by simp)
        have hr3 := hr2.keep x3 (by simp)
        have HAPP := Lib.hid (fun (o : Oper) (a : Act) (K : Act → World → Prop) (Q : Exit → Act → World → Prop) (ho : o.op = .call { callee := .builtin .append, args := #[.tmp 43, .tmp 46], argTypes := #[23, 23] }) (hs : a.eval (.tmp 43) = .slice A1 l.length cp1) (hx : a.eval (.tmp 46) = .slice (some ⟨w3.heap.size, 0, none⟩) 1 1) => wp_append_row (P := Try.prog) (Q := Q) (K := K) (.tmp 43) (.tmp 46) 23 ho 25 (.agg #[.int .i64 0, .string ByteArray.empty, .int .i64 0, .int .u64 0, .int .u64 0, .slice none 0 0]) 6 72 Try.underlying23 info_term rfl (by decide) (by decide) w3 (cellsT (un (cl tt)) (.slice A3 l3 cp3)) rfl hs hx rfl (cellsT_one _ _ _ _) hr3 hl72)
        refine hK.out _ _ (fun _ => kB3.cell 5 rfl) ?_
        clear hK K
        try simp only [Act.put, List.setIfInBounds_toArray, List.set_cons_zero, List.set_cons_succ, List.getElem_toArray, List.getElem_cons_succ, List.getElem_cons_zero]
        refine wpTill_one 4 rfl (by kernel_rfl) rfl (fun K hK => ?_)
        go_simp
        refine hK.out _ _ (fun _ => Blk.cell (kB3.alloc _) 5 rfl) ?_
        clear hK K
        try simp only [Act.put, List.setIfInBounds_toArray, List.set_cons_zero, List.set_cons_succ, List.getElem_toArray, List.getElem_cons_succ, List.getElem_cons_zero]
        refine wpTill_one 5 rfl (by kernel_rfl) rfl (fun K hK => ?_)
        refine HAPP.out _ _ _ _ rfl rfl rfl ?_
        intro gg cp2 w5 own5 kr5 xe5 ko5 kb5
        have kB5 := kB3.keep xe5 (by simp)
        have fB5 := kB5.free 5
        have cB5 := kB5.cell 5 rfl
        refine hK.out _ _ (Till.gone (by kernel_rfl)) ?_
        clear hK K
        try simp only [Act.put, List.setIfInBounds_toArray, List.set_cons_zero, List.set_cons_succ, List.getElem_toArray, List.getElem_cons_succ, List.getElem_cons_zero]
        refine wpTill_free 6 (v := ?_) rfl (by kernel_rfl) (by kernel_rfl) (by kernel_rfl) (by kernel_rfl) (fun _ _ _ h => h) rfl (Till.gone (by kernel_rfl)) ?_ ?_
        rotate_left 1
        · intro w; go_simp; try with_reducible rfl
        try simp only [Act.put, List.setIfInBounds_toArray, List.set_cons_zero, List.set_cons_succ, List.getElem_toArray, List.getElem_cons_succ, List.getElem_cons_zero]
        refine wpTill_one 7 rfl (by kernel_rfl) rfl (fun K hK => ?_)
        go_simp
        refine hK.out _ _ (Till.gone (by kernel_rfl)) ?_
        clear hK K
        try simp only [Act.put, List.setIfInBounds_toArray, List.set_cons_zero, List.set_cons_succ, List.getElem_toArray, List.getElem_cons_succ, List.getElem_cons_zero]
        refine wpTill_done (by kernel_rfl) ?_ _
        have hne : Value.ownBlock (.slice (some ⟨gg, 0, none⟩) (l.length + 1) cp2) ≠ some (w.heap.size + 1 + 1) := by
          intro h
          simp [Value.ownBlock] at h
          have h1 := kr5.2 gg rfl
          have h2 := kB5.2
          rw [h] at h1
          omega
        have y6 : Ext own5 own5 [F0 + 1] w5 (w5.setCell ⟨w.heap.size + 1 + 1, 5, none⟩ (.slice (some ⟨gg, 0, none⟩) (l.length + 1) cp2)) := (Ext.refl own5 [F0 + 1] w5).setCell _ _ (fun _ => by show own5 (w.heap.size + 1 + 1) ∈ _; rw [kB5.2]; simp)
        have kB6 := Blk.set kB5 5 (.slice (some ⟨gg, 0, none⟩) (l.length + 1) cp2)
        have hr6 := kr5.far (p := ⟨w.heap.size + 1 + 1, 5, none⟩) hne (.slice (some ⟨gg, 0, none⟩) (l.length + 1) cp2)
        have hTl : ∀ z ∈ l ++ [(un (cl tt), Value.slice A3 l3 cp3)], TmS own5 (w5.setCell ⟨w.heap.size + 1 + 1, 5, none⟩ (.slice (some ⟨gg, 0, none⟩) (l.length + 1) cp2)) z.1 z.2 := by
          intro z hz
          rcases List.mem_append.1 hz with hz | hz
          · exact TmS.keep y6 (by simp) z.1 _ (TmS.keep xe5 (by simp) z.1 _ (TmS.keep x3 (by simp) z.1 _ (HT2.out z hz)))
          · simp at hz
            subst hz
            exact TmS.keep y6 (by simp) _ _ (TmS.keep xe5 (by simp) _ _ hTn)
        have X6 := ((HXB.out.trans (x3.mono (by simp))).trans (xe5.mono (by simp))).trans (y6.mono (by simp))
        have e1 : (l ++ [(un (cl tt), Value.slice A3 l3 cp3)]).length = l.length + 1 := by simp
        have e2 : termCells (l ++ [(un (cl tt), Value.slice A3 l3 cp3)]) = termCells l ++ cellsT (un (cl tt)) (.slice A3 l3 cp3) := by rw [termCells_append]; simp [termCells]
        have HF := Lib.hid (And.intro X6 (And.intro kB6 (And.intro hr6 (And.intro hTl (And.intro e1 e2)))))
        clear hTl X6 kB6 hr6 y6 hne kr5 xe5 ko5 kb5 kB5 x3 hTn HAPP hr3 kB3
        go_wp2_with fail
        go_roundw
        case measure => simp [intOf]; omega
        refine ⟨l ++ [(un (cl tt), Value.slice A3 l3 cp3)], (.slice (some ⟨gg, 0, none⟩) (l.length + 1) cp2), own5, by rw [HF.out.2.2.2.2.1]; go_num, by rw [HF.out.2.2.2.2.1]; omega, HF.out.1, ?_, ?_, HF.out.2.2.2.1, ?_⟩
        · exact HF.out.2.1
        · rw [HF.out.2.2.2.2.1, HF.out.2.2.2.2.2]; exact HF.out.2.2.1
        · rw [HF.out.2.2.2.2.1, List.map_append]; exact HM.out
      · obtain rfl : l.length = len := by omega
        obtain ⟨own9, A9, cap9, rfl, hL9, ho9, hx9⟩ := hr1.terms hT1
        have hmap2 : l.map (·.1) = uns (cls args) := by
          rw [hmap, uns_map, cls_map, List.map_map, List.take_of_length_le (by rw [HL.out.2.1]; exact Nat.le_refl _)]
          rfl
        have hfin : TmS own9 wr (un (.comp s (cls args))) (.slice A9 l.length cap9) := by
          show TmS own9 wr (.mk 5 s 0 0 0 (uns (cls args))) _
          rw [← hmap2]
          exact hL9.comp HR.out
        have hX9 : Ext own own9 [] w wr := by
          have x0 := (HO.out.1.mono (jds := [F0 + 1, F0 + 2]) (by simp)).trans x
          have x1 := hx9 own _ w x0 (fun b hb => by have := HO.out.2.2 b hb; omega)
          exact ⟨x1.os, x1.tape, x1.output, x1.size, x1.own, fun b hb _ => x1.block b hb (by have := HO.out.2.2 b hb; simp; omega)⟩
        have f0 := kB1.cell 0 rfl
        have f1 := kB1.cell 1 rfl
        have f2 := kB1.cell 2 rfl
        have f3 := kB1.cell 3 rfl
        have f4 := kB1.cell 4 rfl
        have f5 := kB1.cell 5 rfl
        have kZ9 : Blk own9 (F0 + 4) wr (w.heap.size + 1) [.int .i64 0, .string ByteArray.empty, .int .i64 0, .int .u64 0, .int .u64 0, .slice none 0 0] 25 := by
          have := HZ.out.keep x (by simp)
          exact ⟨this.1, by rw [ho9 _ (by rw [this.2]; omega)]; exact this.2⟩
        have hc9 : own9 (w.heap.size + 1) ∈ [F0 + 4] := by rw [kZ9.2]; simp
        have hnl : ¬ (w.heap.size + 1 < w.heap.size) := by omega
        have y0 : Ext own9 own9 [F0 + 4] wr (((((((wr).setCell ⟨w.heap.size + 1, 0, none⟩ (.int .i64 5)).setCell ⟨w.heap.size + 1, 1, none⟩ (.string s)).setCell ⟨w.heap.size + 1, 2, none⟩ (.int .i64 0)).setCell ⟨w.heap.size + 1, 3, none⟩ (.int .u64 0)).setCell ⟨w.heap.size + 1, 4, none⟩ (.int .u64 0)).setCell ⟨w.heap.size + 1, 5, none⟩ (.slice A9 l.length cap9)) := ((((((Ext.refl own9 [F0 + 4] wr).setCell ⟨w.heap.size + 1, 0, none⟩ _ (fun _ => hc9)).setCell ⟨w.heap.size + 1, 1, none⟩ _ (fun _ => hc9)).setCell ⟨w.heap.size + 1, 2, none⟩ _ (fun _ => hc9)).setCell ⟨w.heap.size + 1, 3, none⟩ _ (fun _ => hc9)).setCell ⟨w.heap.size + 1, 4, none⟩ _ (fun _ => hc9)).setCell ⟨w.heap.size + 1, 5, none⟩ _ (fun _ => hc9)
        have hfin2 := TmS.keep y0 (by simp) _ _ hfin
        have hX10 : Ext own own9 [] w (((((((wr).setCell ⟨w.heap.size + 1, 0, none⟩ (.int .i64 5)).setCell ⟨w.heap.size + 1, 1, none⟩ (.string s)).setCell ⟨w.heap.size + 1, 2, none⟩ (.int .i64 0)).setCell ⟨w.heap.size + 1, 3, none⟩ (.int .u64 0)).setCell ⟨w.heap.size + 1, 4, none⟩ (.int .u64 0)).setCell ⟨w.heap.size + 1, 5, none⟩ (.slice A9 l.length cap9)) := ((((((hX9).setCell ⟨w.heap.size + 1, 0, none⟩ _ (fun h => absurd h hnl)).setCell ⟨w.heap.size + 1, 1, none⟩ _ (fun h => absurd h hnl)).setCell ⟨w.heap.size + 1, 2, none⟩ _ (fun h => absurd h hnl)).setCell ⟨w.heap.size + 1, 3, none⟩ _ (fun h => absurd h hnl)).setCell ⟨w.heap.size + 1, 4, none⟩ _ (fun h => absurd h hnl)).setCell ⟨w.heap.size + 1, 5, none⟩ _ (fun h => absurd h hnl)
        have kZ10 : Blk own9 (F0 + 4) (((((((wr).setCell ⟨w.heap.size + 1, 0, none⟩ (.int .i64 5)).setCell ⟨w.heap.size + 1, 1, none⟩ (.string s)).setCell ⟨w.heap.size + 1, 2, none⟩ (.int .i64 0)).setCell ⟨w.heap.size + 1, 3, none⟩ (.int .u64 0)).setCell ⟨w.heap.size + 1, 4, none⟩ (.int .u64 0)).setCell ⟨w.heap.size + 1, 5, none⟩ (.slice A9 l.length cap9)) (w.heap.size + 1) [.int .i64 5, .string s, .int .i64 0, .int .u64 0, .int .u64 0, .slice A9 l.length cap9] 25 := (((((kZ9.set 0 _).set 1 _).set 2 _).set 3 _).set 4 _).set 5 _
        have b0 := kZ9.cell 0 rfl
        have b1 := kZ9.cell 1 rfl
        have b2 := kZ9.cell 2 rfl
        have b3 := kZ9.cell 3 rfl
        have b4 := kZ9.cell 4 rfl
        have b5 := kZ9.cell 5 rfl
        have bf0 := kZ9.free 0
        have bf1 := kZ9.free 1
        have bf2 := kZ9.free 2
        have bf3 := kZ9.free 3
        have bf4 := kZ9.free 4
        have bf5 := kZ9.free 5
        have HF := Lib.hid (And.intro hfin2 (And.intro hX10 kZ10))
        clear hc9 hnl hfin hfin2 hX9 hX10 y0 kZ9 kZ10 ho9 hL9 hx9 hmap hmap2 hT1 hr1 x kB1
        go_wp2_with fail
        (try simp only [Exit.inBlock, Exit.then])
        refine bodyPost_ret (v := .agg #[.int .i64 5, .string s, .int .i64 0, .int .u64 0, .int .u64 0, .slice A9 l.length cap9]) ?_ rfl ?_
        · rw [results_cell1 rfl]
          have z0 := HF.out.2.2.cell 0 rfl
          have z1 := HF.out.2.2.cell 1 rfl
          have z2 := HF.out.2.2.cell 2 rfl
          have z3 := HF.out.2.2.cell 3 rfl
          have z4 := HF.out.2.2.cell 4 rfl
          have z5 := HF.out.2.2.cell 5 rfl
          go_simp
          try rfl
        · exact ⟨own9, HF.out.2.1, A9, l.length, cap9, rfl, HF.out.1⟩

end Go.Proofs.Ytlmcfclonncgbaa
