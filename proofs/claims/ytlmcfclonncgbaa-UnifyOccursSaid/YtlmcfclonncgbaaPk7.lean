/- Texts that stand together: Rename, GetS, GetBound, GetLaw, GetGood. -/
import Derived.Test.YtlmcfclonncgbaaNamed
import Derived.Test.YtlmcfclonncgbaaPk4
import Derived.Test.YtlmcfclonncgbaaPk2
/- The reference's RenameFrom, Rename (package elenchusref1): variables numbered as they are met. -/
namespace Go.Proofs.Ytlmcfclonncgbaa
open Go.RowKit
set_option linter.unusedVariables false
set_option linter.unusedSimpArgs false

/-- The numbers of variables, as they were met. -/
def numV : List Int → Int → List (Int × Int)
  | [], _ => []
  | v :: vs, i => (v, i) :: numV vs (i + 1)
theorem numV_append : ∀ (a : List Int) (y n : Int), numV (a ++ [y]) n = numV a n ++ [(y, n + a.length)]
  | [], y, n => by simp [numV]
  | v :: a, y, n => by
    simp only [List.cons_append, numV, numV_append a y (n + 1), List.length_cons]
    congr 3
    simp only [Prod.mk.injEq, true_and]
    push_cast
    omega
theorem numV_none : ∀ (a : List Int) (y n : Int), y ∉ a → look (numV a n) y = none
  | [], y, n, _ => rfl
  | v :: a, y, n, h => by
    simp only [numV, look]
    rw [if_neg (fun e => h (by simp [e]))]
    exact numV_none a y (n + 1) (fun hm => h (by simp [hm]))
theorem numV_range : ∀ (a : List Int) (n m : Int), 0 ≤ n → 0 ≤ (look (numV a n) m).getD 0 ∧ (look (numV a n) m).getD 0 ≤ n + a.length
  | [], n, m, h => by simp [numV, look]; omega
  | v :: a, n, m, h => by
    simp only [numV, look, List.length_cons]
    split
    · simp; omega
    · have := numV_range a (n + 1) m (by omega)
      push_cast; omega
theorem numV_length : ∀ (a : List Int) (n : Int), (numV a n).length = a.length
  | [], _ => rfl
  | v :: a, n => by simp [numV, numV_length a (n + 1)]
theorem varsF_nodup : ∀ (t : Tm) (L : List Int), L.Nodup → (varsF t L).Nodup := by
  refine Tm.ind ?_
  intro k s n re im args ih L hL
  unfold varsF
  split
  · split
    · exact hL
    · rename_i h
      rw [List.nodup_append]
      exact ⟨hL, by simp, fun a ha b hb => by simp at hb; subst hb; exact fun e => h (e ▸ ha)⟩
  · split
    · have key : ∀ l : List Tm, (∀ a ∈ l, a ∈ args) → ∀ L : List Int, L.Nodup → (varsFs l L).Nodup := by
        intro l
        induction l with
        | nil => intro _ L h; exact h
        | cons a l ih2 => intro hl L h; rw [varsFs_cons]; exact ih2 (fun x hx => hl x (by simp [hx])) _ (ih a (hl a (by simp)) L h)
      exact key args (fun _ h => h) L hL
    · exact hL
theorem varsF_rng {own : Nat → Nat} {w : World} : ∀ (t : Tm) (sl : Value), TmS own w t sl → ∀ L : List Int, (∀ n ∈ L, -9223372036854775808 ≤ n ∧ n ≤ 9223372036854775807) → ∀ n ∈ varsF t L, -9223372036854775808 ≤ n ∧ n ≤ 9223372036854775807 := by
  refine Tm.ind ?_
  intro k s n re im args ih sl h L hL
  have hr : -9223372036854775808 ≤ n ∧ n ≤ 9223372036854775807 := h.rng.2.1
  unfold varsF
  split
  · split
    · exact hL
    · intro m hm
      rcases List.mem_append.1 hm with hm | hm
      · exact hL m hm
      · simp at hm; subst hm; exact hr
  · split
    · obtain ⟨A, len, cap, rfl, hLL⟩ := h.args
      have key : ∀ l : List Tm, (∀ a ∈ l, a ∈ args) → ∀ L : List Int, (∀ n ∈ L, -9223372036854775808 ≤ n ∧ n ≤ 9223372036854775807) → ∀ n ∈ varsFs l L, -9223372036854775808 ≤ n ∧ n ≤ 9223372036854775807 := by
        intro l
        induction l with
        | nil => intro _ L h; exact h
        | cons a l ih2 =>
          intro hl L h
          rw [varsFs_cons]
          have ha : a ∈ args := hl a (by simp)
          obtain ⟨j, hj⟩ := List.getElem?_of_mem ha
          obtain ⟨b, o, sl', _, _, _, hT, _⟩ := TmE.get args 0 hLL.2.2.2 j a hj
          exact ih2 (fun x hx => hl x (by simp [hx])) _ (ih a ha sl' hT L h)
      exact key args (fun _ h => h) L hL
    · exact hL
set_option maxHeartbeats 1600000 in
set_option maxRecDepth 100000 in
theorem renameFrom_any (t : Tm) (sl : Value) (n0 : Int) (hn0 : 0 ≤ n0 ∧ n0 ≤ 1000000000) (own : Nat → Nat) (w : World) (h : TmS own w t sl) (hm : mayE t = 0) (hnv : nvF t ≤ 1000000) : Calls Try.prog 74 #[valT t sl, .int .i64 n0] w (MadeT own w (subst (numG (numV (varsF t []) n0)) (cl t))) := by
  obtain ⟨A, len, cap, rfl, hL⟩ := h.args
  have e : valT t (.slice A len cap) = .agg #[.int .i64 t.kind, .string t.name, .int .i64 t.int, .int .u64 t.re, .int .u64 t.im, .slice A len cap] := rfl
  rw [e]
  obtain ⟨hk, hf, _, _⟩ := mayE_zero.1 hm
  obtain ⟨idc, hidc⟩ : ∃ i : Nat, i = 0 := ⟨_, rfl⟩
  obtain ⟨F0', hF0', hFF⟩ := own_ne own w.heap.size
  obtain ⟨F0, hF0⟩ : ∃ F, F0' + idc = F := ⟨_, rfl⟩
  obtain ⟨x1, kb, y1⟩ := (Ext.refl own [] w).box [.int .i64 t.kind, .string t.name, .int .i64 t.int, .int .u64 t.re, .int .u64 t.im, .slice A len cap] 25 F0
  generalize _root_.Go.Proofs.Ytlmcfclonncgbaa.give own w.heap.size F0 = o1 at *
  obtain ⟨x2, kZ, y2⟩ := x1.box [.int .i64 0, .string ByteArray.empty, .int .i64 0, .int .u64 0, .int .u64 0, .slice none 0 0] 25 (F0 + 4)
  generalize _root_.Go.Proofs.Ytlmcfclonncgbaa.give o1 (w.alloc (.cells #[.int .i64 t.kind, .string t.name, .int .i64 t.int, .int .u64 t.re, .int .u64 t.im, .slice A len cap] 25)).heap.size (F0 + 4) = o2 at *
  simp only [World.size_alloc] at kZ

  have hT := TmS.keep y2 (by simp) t _ (TmS.keep y1 (by simp) t _ h)
  have k2 := kb.keep y2 (by simp)
  have hFF2 : ∀ b, b < w.heap.size → own b < F0 := fun b hb => by have := hFF b hb; omega
  have hc := rvars_any (F0 + 5) (by omega) t _ o2 _ hT hnv hm
  rw [e] at hc
  have hlv := varsF_len t []
  have hnd := varsF_nodup t [] List.nodup_nil
  have hvr := varsF_rng t _ hT [] (by simp)
  obtain ⟨L, hLL⟩ : ∃ L, varsF t [] = L := ⟨_, rfl⟩
  rw [hLL] at hc hlv hnd hvr ⊢
  have hLn : L.length ≤ 1000000 := by simp at hlv; omega
  obtain ⟨C, hC⟩ : ∃ C, subst (numG (numV L n0)) (cl t) = C := ⟨_, rfl⟩
  rw [hC]
  have HX := Lib.hid (And.intro x2 (And.intro kZ (And.intro hk (And.intro hf (And.intro hc (And.intro hnd (And.intro hn0 (And.intro hC (And.intro hFF2 hvr)))))))))
  clear h hL x1 x2 y1 y2 kb kZ hFF hFF2 hf hk hm hidc hF0 hc hlv hnd hvr hn0 hnv hC hLL
  have c0 := k2.cell 0 rfl; have c1 := k2.cell 1 rfl; have c2 := k2.cell 2 rfl; have c3 := k2.cell 3 rfl; have c4 := k2.cell 4 rfl; have c5 := k2.cell 5 rfl
  have hmm := @run_makeMap Try.prog
  go_enter Try.func74, Try.ntmps74
  go_wp2_with fail
  refine Calls.mono HX.out.2.2.2.2.1 ?_
  rintro e3 w3 ⟨own3, x3, v3, rfl, hr3⟩
  obtain ⟨A3, c3', rfl, hc3⟩ := hr3.form
  obtain ⟨z4, hM4⟩ := MV.new own3 (F0 + 6) w3 Try.prog .i64 .i64 2 2
  have k4 := (k2.keep x3 (by simp)).keep z4 (by simp)
  have hr4 := hr3.keep z4 (by simp)
  have hT4 := TmS.keep z4 (by simp) t _ (TmS.keep x3 (by simp) t _ hT)
  have kZ4 := (HX.out.2.1.keep x3 (by simp)).keep z4 (by simp)
  have X4 := (HX.out.1.mono (jds := [F0 + 5]) (by simp)).trans (x3.trans (z4.mono (by simp)))
  generalize _root_.Go.Proofs.Ytlmcfclonncgbaa.give own3 w3.heap.size (F0 + 6) = o4 at *
  obtain ⟨W4, hW4⟩ : ∃ W4, w3.alloc (.map #[] 0) = W4 := ⟨_, rfl⟩
  rw [hW4] at hM4 k4 hr4 hT4 kZ4 X4
  have H4 := Lib.hid (And.intro hM4 (And.intro k4 (And.intro hr4 (And.intro hT4 (And.intro kZ4 X4)))))
  clear hM4 k4 hr4 hT4 kZ4 X4 x3 z4 hr3 k2 hT
  go_wp2_with fail
  go_loopw [14] (fun v wr => ∃ (j : Nat) (own' : Nat → Nat), v = .int .i64 j ∧ j ≤ L.length ∧ Ext o4 own' [F0 + 6] W4 wr ∧ NP own' (F0 + 6) wr w3.heap.size (numV (L.take j) n0)) (fun v _ => L.length - (intOf v).toNat)
  case atStart => exact ⟨0, o4, rfl, Nat.zero_le _, Ext.refl _ _ _, H4.out.1⟩
  case round =>
    obtain ⟨j, own', rfl, hj, x, hM⟩ := hrel
    have hrr := H4.out.2.2.1.keep x (by simp)
    by_cases hlt : j < L.length
    · obtain ⟨g, cp, hv, _⟩ := hrr.form_pos (by omega)
      simp only [Value.slice.injEq] at hv
      obtain ⟨rfl, _, rfl⟩ := hv
      have hx := hrr.cell j (u := .int .i64 L[j]) (by simp [hlt])
      have hgj : L[j]? = some L[j] := List.getElem?_eq_getElem hlt
      obtain ⟨y, hy⟩ : ∃ y, L[j] = y := ⟨_, rfl⟩
      rw [hy] at hx hgj
      have hnot : y ∉ L.take j := fun hm => by
        obtain ⟨i, hi, he⟩ := List.getElem_of_mem hm
        rw [List.length_take] at hi
        rw [List.getElem_take] at he
        have := (List.getElem_inj (i := i) (j := j) (h₀ := by omega) (h₁ := hlt) HX.out.2.2.2.2.2.1).1 (he.trans hy.symm)
        omega
      have hyr := HX.out.2.2.2.2.2.2.2.2.2 y (List.mem_of_getElem? hgj)
      have hn0 := HX.out.2.2.2.2.2.2.1
      obtain ⟨w5, hput, hM5, x5, g5⟩ := MV.put hM (t := 171) Try.underlying171 Try.underlying2 Try.underlying2 y (n0 + j) (wfI64 hyr) (wfI64 (by omega)) (numV_none _ _ _ hnot) (by rw [numV_length, List.length_take]; omega)
      have htk : numV (L.take j) n0 ++ [(y, n0 + j)] = numV (L.take (j + 1)) n0 := by
        rw [List.take_add_one, hgj, Option.toList_some, numV_append, List.length_take, Nat.min_eq_left hj]
      rw [htk] at hM5
      have hwr : IntKind.i64.wrap (n0 + (j : Int)) = n0 + j := by rw [IntKind.wrap_i64]; omega
      have HQ := Lib.hid (And.intro hM5 (x.trans x5))
      clear hM5 x5 x hM hyr hn0 htk hnot hgj hy hrr g5
      go_wp2_with fail
      go_roundw
      case measure => simp [intOf]; omega
      exact ⟨j + 1, own', by go_num, by omega, HQ.out.2, HQ.out.1⟩
    · obtain rfl : j = L.length := by omega
      rw [List.take_length] at hM
      have k5 := H4.out.2.1.keep x (by simp)
      have hT5 := TmS.keep x (by simp) t _ H4.out.2.2.2.1
      have hn0 := HX.out.2.2.2.2.2.2.1
      have hcall := named_any (F0 + 6) w3.heap.size (numV L n0) (fun n => by have := numV_range L n0 n hn0.1; omega) t _ own' wr hT5 HX.out.2.2.1 HX.out.2.2.2.1 hM
      rw [e, HX.out.2.2.2.2.2.2.2.1] at hcall
      have HC := Lib.hid (And.intro hcall (And.intro (H4.out.2.2.2.2.1.keep x (by simp)) (H4.out.2.2.2.2.2.mono (jds := [F0 + 5, F0 + 6]) (by simp) |>.trans (x.mono (by simp)))))
      clear hcall hn0 hT5 hM x hrr
      have h0 := k5.cell 0 rfl; have h1 := k5.cell 1 rfl; have h2 := k5.cell 2 rfl; have h3 := k5.cell 3 rfl; have h4 := k5.cell 4 rfl; have h5 := k5.cell 5 rfl
      go_wp2_with (go_at_call 108; refine Calls.mono HC.out.1 ?_; rintro e5 w5 ⟨own5, x5, A5, l5, cp5, (rfl : e5 = .returned (.agg #[.int .i64 (un C).kind, .string (un C).name, .int .i64 (un C).int, .int .u64 (un C).re, .int .u64 (un C).im, .slice A5 l5 cp5])), hT5⟩; have kZ5 := HC.out.2.1.keep x5 (by simp); have b0 := kZ5.cell 0 rfl; have b1 := kZ5.cell 1 rfl; have b2 := kZ5.cell 2 rfl; have b3 := kZ5.cell 3 rfl; have b4 := kZ5.cell 4 rfl; have b5 := kZ5.cell 5 rfl; have bf0 := kZ5.free 0; have bf1 := kZ5.free 1; have bf2 := kZ5.free 2; have bf3 := kZ5.free 3; have bf4 := kZ5.free 4; have bf5 := kZ5.free 5)
      have X5 : Ext own own5 [] w w5 := by
        have x1 := HC.out.2.2.trans (x5.mono (by simp))
        exact ⟨x1.os, x1.tape, x1.output, x1.size, x1.own, fun b hb _ => x1.block b hb (by have := HX.out.2.2.2.2.2.2.2.2.1 b hb; simp; omega)⟩
      have HE := Lib.hid (store_res (v0 := .int .i64 (un C).kind) (v1 := .string (un C).name) (v2 := .int .i64 (un C).int) (v3 := .int .u64 (un C).re) (v4 := .int .u64 (un C).im) (v5 := .slice A5 l5 cp5) X5 (by omega) kZ5 (by omega) hT5)
      (try simp only [Exit.inBlock, Exit.then])
      refine bodyPost_ret (v := .agg #[.int .i64 (un C).kind, .string (un C).name, .int .i64 (un C).int, .int .u64 (un C).re, .int .u64 (un C).im, .slice A5 l5 cp5]) ?_ rfl ?_
      · rw [results_cell1 rfl]
        have kk := HE.out.2.2
        have z0 := kk.cell 0 rfl
        have z1 := kk.cell 1 rfl
        have z2 := kk.cell 2 rfl
        have z3 := kk.cell 3 rfl
        have z4 := kk.cell 4 rfl
        have z5 := kk.cell 5 rfl
        go_simp
        try rfl
      · exact ⟨own5, HE.out.1, A5, l5, cp5, rfl, HE.out.2.1⟩
set_option maxHeartbeats 1600000 in
set_option maxRecDepth 100000 in
theorem rename_any (t : Tm) (sl : Value) (own : Nat → Nat) (w : World) (h : TmS own w t sl) (hm : mayE t = 0) (hnv : nvF t ≤ 1000000) : Calls Try.prog 52 #[valT t sl] w (MadeT own w (subst (numG (numV (varsF t []) 0)) (cl t))) := by
  obtain ⟨A, len, cap, rfl, hL⟩ := h.args
  have e : valT t (.slice A len cap) = .agg #[.int .i64 t.kind, .string t.name, .int .i64 t.int, .int .u64 t.re, .int .u64 t.im, .slice A len cap] := rfl
  rw [e]
  have hm' : (mayE t == 0) = true := by simpa using hm
  obtain ⟨idc, hidc⟩ : ∃ i : Nat, i = 0 := ⟨_, rfl⟩
  obtain ⟨F0', hF0', hFF⟩ := own_ne own w.heap.size
  obtain ⟨F0, hF0⟩ : ∃ F, F0' + idc = F := ⟨_, rfl⟩
  obtain ⟨x1, kb, y1⟩ := (Ext.refl own [] w).box [.int .i64 t.kind, .string t.name, .int .i64 t.int, .int .u64 t.re, .int .u64 t.im, .slice A len cap] 25 F0
  generalize _root_.Go.Proofs.Ytlmcfclonncgbaa.give own w.heap.size F0 = o1 at *
  obtain ⟨x2, kZ, y2⟩ := x1.box [.int .i64 0, .string ByteArray.empty, .int .i64 0, .int .u64 0, .int .u64 0, .slice none 0 0] 25 (F0 + 4)
  generalize _root_.Go.Proofs.Ytlmcfclonncgbaa.give o1 (w.alloc (.cells #[.int .i64 t.kind, .string t.name, .int .i64 t.int, .int .u64 t.re, .int .u64 t.im, .slice A len cap] 25)).heap.size (F0 + 4) = o2 at *
  simp only [World.size_alloc] at kZ

  have hT := TmS.keep y2 (by simp) t _ (TmS.keep y1 (by simp) t _ h)
  have k2 := kb.keep y2 (by simp)
  obtain ⟨C, hC⟩ : ∃ C, subst (numG (numV (varsF t []) 0)) (cl t) = C := ⟨_, rfl⟩
  rw [hC]
  have HX := Lib.hid (And.intro x2 (And.intro kZ (And.intro hm (And.intro hnv hC))))
  clear h hL x1 x2 y1 y2 kb kZ hFF hm hidc hF0 hnv hC
  have c0 := k2.cell 0 rfl; have c1 := k2.cell 1 rfl; have c2 := k2.cell 2 rfl; have c3 := k2.cell 3 rfl; have c4 := k2.cell 4 rfl; have c5 := k2.cell 5 rfl
  go_enter Try.func52, Try.ntmps52
  go_wp2_with (first
    | (go_at_call 24; have hc := rmay_any t _ o2 _ hT; rw [e] at hc; refine hc.mono ?_; rintro e3 w3 ⟨own3, x3, rfl⟩; have k3 := k2.keep x3 (by simp); have hT3 := TmS.keep x3 (by simp) t _ hT; have kZ3 := HX.out.2.1.keep x3 (by simp); have d0 := k3.cell 0 rfl; have d1 := k3.cell 1 rfl; have d2 := k3.cell 2 rfl; have d3 := k3.cell 3 rfl; have d4 := k3.cell 4 rfl; have d5 := k3.cell 5 rfl)
    | (go_at_call 74; have hc := renameFrom_any t _ 0 (by decide) own3 _ hT3 HX.out.2.2.1 HX.out.2.2.2.1; rw [e, HX.out.2.2.2.2] at hc; refine hc.mono ?_; rintro e4 w4 ⟨own4, x4, A3, l3, cp3, (rfl : e4 = .returned (.agg #[.int .i64 (un C).kind, .string (un C).name, .int .i64 (un C).int, .int .u64 (un C).re, .int .u64 (un C).im, .slice A3 l3 cp3])), hT4⟩; have kZ4 := kZ3.keep x4 (by simp); have X4 := (HX.out.1.trans x3).trans x4; have b0 := kZ4.cell 0 rfl; have b1 := kZ4.cell 1 rfl; have b2 := kZ4.cell 2 rfl; have b3 := kZ4.cell 3 rfl; have b4 := kZ4.cell 4 rfl; have b5 := kZ4.cell 5 rfl; have bf0 := kZ4.free 0; have bf1 := kZ4.free 1; have bf2 := kZ4.free 2; have bf3 := kZ4.free 3; have bf4 := kZ4.free 4; have bf5 := kZ4.free 5))
  have HE := Lib.hid (store_res (v0 := .int .i64 (un C).kind) (v1 := .string (un C).name) (v2 := .int .i64 (un C).int) (v3 := .int .u64 (un C).re) (v4 := .int .u64 (un C).im) (v5 := .slice A3 l3 cp3) X4 (by omega) kZ4 (by omega) hT4)
  (try simp only [Exit.inBlock, Exit.then])
  refine bodyPost_ret (v := .agg #[.int .i64 (un C).kind, .string (un C).name, .int .i64 (un C).int, .int .u64 (un C).re, .int .u64 (un C).im, .slice A3 l3 cp3]) ?_ rfl ?_
  · rw [results_cell1 rfl]
    have kk := HE.out.2.2
    have z0 := kk.cell 0 rfl
    have z1 := kk.cell 1 rfl
    have z2 := kk.cell 2 rfl
    have z3 := kk.cell 3 rfl
    have z4 := kk.cell 4 rfl
    have z5 := kk.cell 5 rfl
    go_simp
    try rfl
  · exact ⟨own4, HE.out.1, A3, l3, cp3, rfl, HE.out.2.1⟩

end Go.Proofs.Ytlmcfclonncgbaa
/- What a cell is told as (package store's Get), in plain terms. -/
namespace Go.Proofs.Ytlmcfclonncgbaa
open Go.RowKit
set_option linter.unusedVariables false
set_option linter.unusedSimpArgs false

/-- The cells behind a place, as many. -/
def cellsAt (l : List Int) (v n : Nat) : List Int := (l.drop v).take n
theorem cellsAt_get {l : List Int} {v n j : Nat} (hj : j < n) (h : v + n ≤ l.length) : (cellsAt l v n)[j]? = some (l.getD (v + j) 0) := by
  unfold cellsAt
  rw [List.getElem?_take, if_pos hj, List.getElem?_drop]
  simp only [List.getD]
  rw [List.getElem?_eq_getElem (by omega)]; rfl
theorem cellsAt_length {l : List Int} {v n : Nat} (h : v + n ≤ l.length) : (cellsAt l v n).length = n := by
  unfold cellsAt; rw [List.length_take, List.length_drop]; omega
/-- A word with a sign. -/
def sig (c : Int) : Int := IntKind.i64.wrap c
/-- A place's variable; the places that were met. -/
def metP (P : List Int) (p : Int) : List Int := if p ∈ P then P else P ++ [p]
abbrev GR := Int × CT × Nat × List Int
def bad (e : Int) (n : Nat) (P : List Int) : GR := (e, .atom ByteArray.empty, n, P)
def getArgs (f : Int → Nat → List Int → GR) : List Int → Nat → List Int → Int × List CT × Nat × List Int
  | [], n, P => (0, [], n, P)
  | c :: cs, n, P => if (f c n P).1 ≠ 0 then ((f c n P).1, [], (f c n P).2.2.1, (f c n P).2.2.2) else
    ((getArgs f cs (f c n P).2.2.1 (f c n P).2.2.2).1, (f c n P).2.1 :: (getArgs f cs (f c n P).2.2.1 (f c n P).2.2.2).2.1, (getArgs f cs (f c n P).2.2.1 (f c n P).2.2.2).2.2)
/-- A compound's own words: its functor's name, its arity, where all is there. -/
def compOk (l : List Int) (L : List ByteArray) (v : Nat) : Bool := decide (v < l.length) && decide (l.getD v 0 % 8 = 6) && decide (l.getD v 0 / 8 / 256 < L.length) && decide (v + (l.getD v 0 / 8 % 256).toNat < l.length) && decide (1 ≤ l.getD v 0 / 8 % 256) && decide (l.getD v 0 / 8 % 256 ≤ 20)
def compG (l : List Int) (L : List ByteArray) (f : Int → Nat → List Int → GR) (D : Int) (n : Nat) (P : List Int) : GR :=
      (if compOk l L (D / 8).toNat then
        (if (getArgs f (cellsAt l ((D / 8).toNat + 1) (l.getD (D / 8).toNat 0 / 8 % 256).toNat) n P).1 ≠ 0 then bad (getArgs f (cellsAt l ((D / 8).toNat + 1) (l.getD (D / 8).toNat 0 / 8 % 256).toNat) n P).1 (getArgs f (cellsAt l ((D / 8).toNat + 1) (l.getD (D / 8).toNat 0 / 8 % 256).toNat) n P).2.2.1 (getArgs f (cellsAt l ((D / 8).toNat + 1) (l.getD (D / 8).toNat 0 / 8 % 256).toNat) n P).2.2.2
         else (0, .comp (L.getD (l.getD (D / 8).toNat 0 / 8 / 256).toNat ByteArray.empty) (getArgs f (cellsAt l ((D / 8).toNat + 1) (l.getD (D / 8).toNat 0 / 8 % 256).toNat) n P).2.1, (getArgs f (cellsAt l ((D / 8).toNat + 1) (l.getD (D / 8).toNat 0 / 8 % 256).toNat) n P).2.2))
      else bad 2 n P)
def getF (l : List Int) (L : List ByteArray) : Nat → Int → Nat → List Int → GR
  | 0, _, n, P => bad 3 n P
  | fuel + 1, c, n, P =>
    if n = 2000 then bad 3 n P else
    if deref l c % 8 = 0 then (if deref l c / 8 < l.length ∧ l.getD (deref l c / 8).toNat 0 = deref l c then (0, .var ((look (numV (metP P (deref l c / 8)) 0) (deref l c / 8)).getD 0), n + 1, metP P (deref l c / 8)) else bad 2 (n + 1) P)
    else if deref l c % 8 = 1 then
      compG l L (getF l L fuel) (deref l c) (n + 1) P
    else if deref l c % 8 = 2 then (if deref l c / 8 < L.length then (0, .atom (L.getD (deref l c / 8).toNat ByteArray.empty), n + 1, P) else bad 2 (n + 1) P)
    else if deref l c % 8 = 3 then (0, .int (intC (deref l c)), n + 1, P)
    else if deref l c % 8 = 4 then (if deref l c / 8 < l.length then (0, .int (sig (l.getD (deref l c / 8).toNat 0)), n + 1, P) else bad 2 (n + 1) P)
    else if deref l c % 8 = 5 then (if deref l c / 8 + 1 < l.length then (0, .cpx (l.getD (deref l c / 8).toNat 0) (l.getD ((deref l c / 8).toNat + 1) 0), n + 1, P) else bad 2 (n + 1) P)
    else bad 2 (n + 1) P

end Go.Proofs.Ytlmcfclonncgbaa
/- How far the reader's counters go: in plain terms. -/
namespace Go.Proofs.Ytlmcfclonncgbaa
open Go.RowKit
set_option linter.unusedVariables false
set_option linter.unusedSimpArgs false

/-- The counters stay within their bounds. -/
def Bd (n : Nat) (P : List Int) : Prop := n ≤ 2000 ∧ P.length ≤ 998000 + n
def BdF (f : Int → Nat → List Int → GR) : Prop := ∀ c n P, Bd n P → Bd (f c n P).2.2.1 (f c n P).2.2.2
theorem getArgs_bd {f : Int → Nat → List Int → GR} (hf : BdF f) : ∀ (cs : List Int) (n : Nat) (P : List Int), Bd n P → Bd (getArgs f cs n P).2.2.1 (getArgs f cs n P).2.2.2
  | [], n, P, h => h
  | c :: cs, n, P, h => by
    unfold getArgs
    split
    · exact hf c n P h
    · exact getArgs_bd hf cs _ _ (hf c n P h)
theorem compG_bd {l : List Int} {L : List ByteArray} {f : Int → Nat → List Int → GR} (hf : BdF f) (D : Int) (n : Nat) (P : List Int) (h : Bd n P) : Bd (compG l L f D n P).2.2.1 (compG l L f D n P).2.2.2 := by
  unfold compG
  split
  · split
    · exact getArgs_bd hf _ n P h
    · exact getArgs_bd hf _ n P h
  · exact h
theorem metP_len (P : List Int) (p : Int) : (metP P p).length ≤ P.length + 1 := by unfold metP; split <;> simp
theorem getF_bd (l : List Int) (L : List ByteArray) : ∀ fuel : Nat, BdF (getF l L fuel)
  | 0 => fun c n P h => h
  | fuel + 1 => fun c n P h => by
    unfold getF
    by_cases h2 : n = 2000
    · rw [if_pos h2]; exact h
    · rw [if_neg h2]
      have h1 : Bd (n + 1) P := ⟨by have := h.1; omega, by have := h.2; omega⟩
      split
      · split
        · refine ⟨h1.1, ?_⟩
          have := metP_len P (deref l c / 8)
          have := h.2
          dsimp only
          omega
        · exact h1
      · split
        · exact compG_bd (getF_bd l L fuel) _ _ _ h1
        · split
          · split <;> exact h1
          · split
            · exact h1
            · split
              · split <;> exact h1
              · split
                · split <;> exact h1
                · exact h1

end Go.Proofs.Ytlmcfclonncgbaa
/- What stands for a term is told as that term, its variables numbered as they are met (package store's Get): in plain terms. -/
namespace Go.Proofs.Ytlmcfclonncgbaa
open Go.RowKit
set_option linter.unusedVariables false
set_option linter.unusedSimpArgs false

mutual
/-- The places that are met. -/
def metT : CT → List Int → List Int
  | .var p, P => metP P p
  | .atom _, P => P
  | .int _, P => P
  | .cpx _ _, P => P
  | .comp _ args, P => metTs args P
def metTs : List CT → List Int → List Int
  | [], P => P
  | t :: ts, P => metTs ts (metT t P)
end
theorem metP_ext (P : List Int) (p : Int) : ∃ Q, metP P p = P ++ Q := by
  unfold metP; split
  · exact ⟨[], by simp⟩
  · exact ⟨[p], rfl⟩
mutual
theorem metT_ext : ∀ (t : CT) (P : List Int), ∃ Q, metT t P = P ++ Q
  | .var p, P => metP_ext P p
  | .atom _, P => ⟨[], by simp [metT]⟩
  | .int _, P => ⟨[], by simp [metT]⟩
  | .cpx _ _, P => ⟨[], by simp [metT]⟩
  | .comp _ args, P => metTs_ext args P
theorem metTs_ext : ∀ (l : List CT) (P : List Int), ∃ Q, metTs l P = P ++ Q
  | [], P => ⟨[], by simp [metTs]⟩
  | t :: ts, P => by
    obtain ⟨Q, h⟩ := metT_ext t P
    obtain ⟨R, k⟩ := metTs_ext ts (metT t P)
    exact ⟨Q ++ R, by simp only [metTs]; rw [k, h, List.append_assoc]⟩
end
mutual
theorem metT_occ : ∀ (t : CT) (P : List Int) (n : Int), occ n t → n ∈ metT t P
  | .var p, P, n, h => by
    have e : n = p := h
    subst e
    simp only [metT, metP]; split
    · assumption
    · simp
  | .atom _, _, _, h => h.elim
  | .int _, _, _, h => h.elim
  | .cpx _ _, _, _, h => h.elim
  | .comp _ args, P, n, h => metTs_occ args P n h
theorem metTs_occ : ∀ (l : List CT) (P : List Int) (n : Int), occs n l → n ∈ metTs l P
  | [], _, _, h => h.elim
  | t :: ts, P, n, h => by
    simp only [metTs]
    rcases h with h | h
    · obtain ⟨Q, k⟩ := metTs_ext ts (metT t P)
      rw [k]; exact List.mem_append_left _ (metT_occ t P n h)
    · exact metTs_occ ts _ n h
end
theorem look_pre : ∀ (P Q : List Int) (m n : Int), m ∈ P → look (numV (P ++ Q) n) m = look (numV P n) m
  | [], _, _, _, h => by simp at h
  | a :: P, Q, m, n, h => by
    simp only [List.cons_append, numV, look]
    by_cases e : a = m
    · rw [if_pos e, if_pos e]
    · rw [if_neg e, if_neg e]
      exact look_pre P Q m (n + 1) (by simpa [Ne.symm e] using h)
/-- Numbers told early stay. -/
theorem subst_pre (t : CT) (P Q : List Int) (h : ∀ n, occ n t → n ∈ P) : subst (numG (numV (P ++ Q) 0)) t = subst (numG (numV P 0)) t :=
  subst_congr t (fun n hn => by unfold numG; rw [look_pre P Q n 0 (h n hn)])
theorem intC_small {n : Int} (h : isSmall n) : intC (smallC n) = n := by unfold isSmall at h; unfold intC smallC wrap64; omega
section
variable {W : Nat → Prop} {l : List Int} {L : List ByteArray}
theorem getArgs_cons (f : Int → Nat → List Int → GR) (c : Int) (cs : List Int) (n : Nat) (P : List Int) : getArgs f (c :: cs) n P = if (f c n P).1 ≠ 0 then ((f c n P).1, [], (f c n P).2.2.1, (f c n P).2.2.2) else
    ((getArgs f cs (f c n P).2.2.1 (f c n P).2.2.2).1, (f c n P).2.1 :: (getArgs f cs (f c n P).2.2.1 (f c n P).2.2.2).2.1, (getArgs f cs (f c n P).2.2.1 (f c n P).2.2.2).2.2) := rfl
theorem cellsAt_cons {q k : Nat} (h : q < l.length) : cellsAt l q (k + 1) = l.getD q 0 :: cellsAt l (q + 1) k := by
  unfold cellsAt
  rw [List.drop_eq_getElem_cons h, List.take_succ_cons]
  simp [List.getD, List.getElem?_eq_getElem h]
mutual
theorem getF_rep (hl : Pos l) (hL : L.length ≤ 4096) : ∀ (t : CT) (c : Int) (fuel n : Nat) (P : List Int), rep W l L t c → 0 ≤ c → fine t → depth t ≤ fuel → n + nodes t ≤ 2000 →
    getF l L fuel c n P = (0, subst (numG (numV (metT t P) 0)) t, n + nodes t, metT t P)
  | .var m, c, fuel, n, P, h, hc, hf, hd, hn => by
    obtain ⟨p, rfl, h2, h3, h4, h5⟩ := h
    have e := deref_of hl hc h5
    have hd' : 1 ≤ fuel := hd
    have hn' : n + 1 ≤ 2000 := hn
    obtain ⟨fuel, rfl⟩ : ∃ k, fuel = k + 1 := ⟨fuel - 1, by omega⟩
    unfold getF
    rw [if_neg (by omega), e, if_pos (by omega), show ((p : Int) * 8) / 8 = p by omega, if_pos ⟨by omega, by simpa using h4⟩]
    rfl
  | .atom s, c, fuel, n, P, h, hc, hf, hd, hn => by
    obtain ⟨i, h1, h5⟩ := h
    have e := deref_of hl hc h5
    have hd' : 1 ≤ fuel := hd
    have hn' : n + 1 ≤ 2000 := hn
    have hi := (List.getElem?_eq_some_iff.1 h1).1
    obtain ⟨fuel, rfl⟩ : ∃ k, fuel = k + 1 := ⟨fuel - 1, by omega⟩
    unfold getF
    rw [if_neg (by omega), e, if_neg (by omega), if_neg (by omega), if_pos (by omega), show ((i : Int) * 8 + 2) / 8 = i by omega, if_pos (by omega)]
    simp [List.getD, h1, subst, metT, nodes]
  | .int m, c, fuel, n, P, h, hc, hf, hd, hn => by
    have hd' : 1 ≤ fuel := hd
    have hn' : n + 1 ≤ 2000 := hn
    obtain ⟨fuel, rfl⟩ : ∃ k, fuel = k + 1 := ⟨fuel - 1, by omega⟩
    unfold getF
    rcases h with ⟨h1, h2⟩ | ⟨h1, h2, h3, p, h4, h5, h6, h7⟩
    · have e := deref_of hl hc h2
      have ht : smallC m % 8 = 3 := by unfold smallC; omega
      rw [if_neg (by omega), e, if_neg (by omega), if_neg (by omega), if_neg (by omega), if_pos ht, intC_small h1]
      rfl
    · have e := deref_of hl hc h7
      rw [if_neg (by omega), e, if_neg (by omega), if_neg (by omega), if_neg (by omega), if_neg (by omega), if_pos (by omega), show ((p : Int) * 8 + 4) / 8 = p by omega, if_pos (by omega)]
      have es : sig (l.getD ((p : Int)).toNat 0) = m := by
        rw [show ((p : Int)).toNat = p by omega, h6]; unfold sig; rw [IntKind.wrap_i64]; omega
      rw [es]; rfl
  | .cpx re im, c, fuel, n, P, h, hc, hf, hd, hn => by
    have hd' : 1 ≤ fuel := hd
    have hn' : n + 1 ≤ 2000 := hn
    obtain ⟨fuel, rfl⟩ : ∃ k, fuel = k + 1 := ⟨fuel - 1, by omega⟩
    obtain ⟨p, h1, h2, h3, h4, h5, h6⟩ := h
    have e := deref_of hl hc h6
    unfold getF
    rw [if_neg (by omega), e, if_neg (by omega), if_neg (by omega), if_neg (by omega), if_neg (by omega), if_neg (by omega), if_pos (by omega), show ((p : Int) * 8 + 5) / 8 = p by omega, if_pos (by omega), show ((p : Int)).toNat = p by omega, h4, h5]
    rfl
  | .comp s args, c, fuel, n, P, h, hc, hf, hd, hn => by
    obtain ⟨p, i, h1, h2, h3, h4, h5, h6⟩ := h
    obtain ⟨f1, f2, f3, f4⟩ := hf
    have e := deref_of hl hc h5
    simp only [depth] at hd
    simp only [nodes] at hn
    obtain ⟨fuel, rfl⟩ : ∃ k, fuel = k + 1 := ⟨fuel - 1, by omega⟩
    have hi := (List.getElem?_eq_some_iff.1 h4).1
    unfold getF
    have hz : ∀ x : Int, x = funC i args.length → x % 8 = 6 ∧ x / 8 / 256 = i ∧ x / 8 % 256 = args.length := by
      rintro x rfl; unfold funC; omega
    obtain ⟨z1, z2, z3⟩ := hz _ h3
    have hv : ((p : Int) * 8 + 1) / 8 = p := by omega
    have hpt : ((p : Int)).toNat = p := by omega
    have hok : compOk l L p = true := by
      unfold compOk
      simp only [z1, z2, z3, Bool.and_eq_true, decide_eq_true_eq]
      refine ⟨⟨⟨⟨⟨by omega, trivial⟩, by omega⟩, by simp; omega⟩, by omega⟩, by omega⟩
    have ha := getArgs_rep hl hL args (p + 1) fuel (n + 1) P h6 f4 (by omega) (by omega) (by omega)
    rw [if_neg (by omega), e, if_neg (by omega), if_pos (by omega)]
    unfold compG
    rw [hv, hpt, if_pos hok, z3, z2, show ((args.length : Nat) : Int).toNat = args.length by omega, ha]
    rw [if_neg (by simp)]
    have hs : L.getD ((i : Int)).toNat ByteArray.empty = s := by rw [show ((i : Int)).toNat = i by omega]; simp [List.getD, h4]
    rw [hs]
    simp only [subst, metT, nodes]
    rw [Nat.add_assoc, Nat.add_comm 1]
theorem getArgs_rep (hl : Pos l) (hL : L.length ≤ 4096) : ∀ (ts : List CT) (q : Nat) (fuel n : Nat) (P : List Int), reps W l L ts q → fines ts → (ts ≠ [] → depthL ts ≤ fuel) → n + nodesL ts ≤ 2000 → q + ts.length ≤ l.length →
    getArgs (getF l L fuel) (cellsAt l q ts.length) n P = (0, substs (numG (numV (metTs ts P) 0)) ts, n + nodesL ts, metTs ts P)
  | [], q, fuel, n, P, _, _, _, _, _ => by simp [cellsAt, getArgs, substs, nodesL, metTs]
  | t :: ts, q, fuel, n, P, ⟨h0, h1, h2⟩, ⟨g1, g2⟩, hd, hn, hq => by
    simp only [List.length_cons] at hq ⊢
    simp only [nodesL] at hn
    have hd' := hd (by simp)
    simp only [depthL] at hd'
    rw [cellsAt_cons (by omega), getArgs_cons]
    have ih := getF_rep hl hL t (l.getD q 0) fuel n P h1 (getD_pos hl q) g1 (by omega) (by omega)
    rw [ih, if_neg (by simp)]
    dsimp only
    have ih2 := getArgs_rep hl hL ts (q + 1) fuel (n + nodes t) (metT t P) h2 g2 (fun _ => by omega) (by omega) (by omega)
    rw [ih2]
    obtain ⟨Q, hQ⟩ := metTs_ext ts (metT t P)
    have hp := subst_pre t (metT t P) Q (fun m hm => metT_occ t P m hm)
    simp only [substs, metTs, nodesL]
    rw [hQ, hp, Nat.add_assoc]
end
end

end Go.Proofs.Ytlmcfclonncgbaa
/- What a cell is told as may be. In plain terms. -/
namespace Go.Proofs.Ytlmcfclonncgbaa
open Go.RowKit
set_option linter.unusedVariables false
set_option linter.unusedSimpArgs false

theorem getD_short {L : List ByteArray} (hL : ∀ s ∈ L, s.size ≤ 200) (i : Nat) : (L.getD i ByteArray.empty).size ≤ 200 := by
  by_cases h : i < L.length
  · simp only [List.getD, List.getElem?_eq_getElem h, Option.getD_some]; exact hL _ (List.getElem_mem h)
  · simp only [List.getD, List.getElem?_eq_none (Nat.le_of_not_lt h), Option.getD_none]; decide
def GoodF (f : Int → Nat → List Int → GR) (k : Nat) : Prop := ∀ c n P, n ≤ 2000 → (f c n P).1 = 0 → fine (f c n P).2.1 ∧ depth (f c n P).2.1 ≤ k ∧ n + nodes (f c n P).2.1 = (f c n P).2.2.1 ∧ (f c n P).2.2.1 ≤ 2000
theorem getArgs_good {f : Int → Nat → List Int → GR} {k : Nat} (hf : GoodF f k) : ∀ (cs : List Int) (n : Nat) (P : List Int), n ≤ 2000 → (getArgs f cs n P).1 = 0 → fines (getArgs f cs n P).2.1 ∧ depthL (getArgs f cs n P).2.1 ≤ k ∧ n + nodesL (getArgs f cs n P).2.1 = (getArgs f cs n P).2.2.1 ∧ (getArgs f cs n P).2.2.1 ≤ 2000 ∧ (getArgs f cs n P).2.1.length = cs.length
  | [], n, P, hn, _ => ⟨trivial, Nat.zero_le _, rfl, hn, rfl⟩
  | c :: cs, n, P, hn, h => by
    unfold getArgs at h ⊢
    by_cases e : (f c n P).1 ≠ 0
    · rw [if_pos e] at h; exact absurd h e
    · rw [if_neg e] at h ⊢
      obtain ⟨a1, a2, a3, a4⟩ := hf c n P hn (by simpa using e)
      obtain ⟨b1, b2, b3, b4, b5⟩ := getArgs_good hf cs _ (f c n P).2.2.2 a4 h
      refine ⟨⟨a1, b1⟩, ?_, ?_, b4, by simp [b5]⟩
      · simp only [depthL]; omega
      · simp only [nodesL]; omega
theorem getF_good (l : List Int) {L : List ByteArray} (hL : ∀ s ∈ L, s.size ≤ 200) : ∀ fuel : Nat, GoodF (getF l L fuel) fuel
  | 0 => fun c n P hn h => by simp [getF, bad] at h
  | fuel + 1 => fun c n P hn h => by
    have ih := getF_good l hL fuel
    unfold getF at h ⊢
    by_cases h2 : n = 2000
    · rw [if_pos h2] at h; simp [bad] at h
    · rw [if_neg h2] at h ⊢
      generalize deref l c = D at h ⊢
      by_cases t0 : D % 8 = 0
      · rw [if_pos t0] at h ⊢
        split at h
        · rename_i hc
          rw [if_pos hc]
          refine ⟨?_, by simp [depth], by simp [nodes], by dsimp only; omega⟩
          show 0 ≤ _
          exact (numV_range (metP P (D / 8)) 0 (D / 8) (Int.le_refl _)).1
        · simp [bad] at h
      · rw [if_neg t0] at h ⊢
        by_cases t1 : D % 8 = 1
        · rw [if_pos t1] at h ⊢
          unfold compG at h ⊢
          by_cases hok : compOk l L (D / 8).toNat = true
          · rw [if_pos hok] at h ⊢
            have hok' := hok
            unfold compOk at hok'
            simp only [Bool.and_eq_true, decide_eq_true_eq] at hok'
            generalize hcs : cellsAt l ((D / 8).toNat + 1) (l.getD (D / 8).toNat 0 / 8 % 256).toNat = cs at h ⊢
            have hcl : cs.length = (l.getD (D / 8).toNat 0 / 8 % 256).toNat := by rw [← hcs]; exact cellsAt_length (by omega)
            by_cases ea : (getArgs (getF l L fuel) cs (n + 1) P).1 ≠ 0
            · rw [if_pos ea] at h; exact absurd h ea
            · rw [if_neg ea] at h ⊢
              obtain ⟨b1, b2, b3, b4, b5⟩ := getArgs_good ih cs (n + 1) P (by omega) (by simpa using ea)
              refine ⟨⟨getD_short hL _, by rw [b5]; omega, by rw [b5]; omega, b1⟩, ?_, ?_, b4⟩
              · simp only [depth]; omega
              · simp only [nodes]; omega
          · rw [if_neg hok] at h; simp [bad] at h
        · rw [if_neg t1] at h ⊢
          by_cases t2 : D % 8 = 2
          · rw [if_pos t2] at h ⊢
            split at h
            · rename_i hc
              rw [if_pos hc]
              exact ⟨getD_short hL _, by simp [depth], by simp [nodes], by dsimp only; omega⟩
            · simp [bad] at h
          · rw [if_neg t2] at h ⊢
            by_cases t3 : D % 8 = 3
            · rw [if_pos t3]
              exact ⟨trivial, by simp [depth], by simp [nodes], by dsimp only; omega⟩
            · rw [if_neg t3] at h ⊢
              by_cases t4 : D % 8 = 4
              · rw [if_pos t4] at h ⊢
                split at h
                · rename_i hc
                  rw [if_pos hc]
                  exact ⟨trivial, by simp [depth], by simp [nodes], by dsimp only; omega⟩
                · simp [bad] at h
              · rw [if_neg t4] at h ⊢
                by_cases t5 : D % 8 = 5
                · rw [if_pos t5] at h ⊢
                  split at h
                  · rename_i hc
                    rw [if_pos hc]
                    exact ⟨trivial, by simp [depth], by simp [nodes], by dsimp only; omega⟩
                  · simp [bad] at h
                · rw [if_neg t5] at h; simp [bad] at h
theorem getF_Good {l : List Int} {L : List ByteArray} (hL : ∀ s ∈ L, s.size ≤ 200) {c : Int} {P : List Int} (h : (getF l L 500 c 0 P).1 = 0) : Good (getF l L 500 c 0 P).2.1 := by
  obtain ⟨a, b, c, d⟩ := getF_good l hL 500 c 0 P (by decide) h
  exact ⟨a, b, by omega⟩
end Go.Proofs.Ytlmcfclonncgbaa
