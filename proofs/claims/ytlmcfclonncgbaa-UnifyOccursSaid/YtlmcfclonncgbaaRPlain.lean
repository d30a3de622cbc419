/- The reference's Plain (package elenchusref1). -/
import Derived.Test.YtlmcfclonncgbaaPlain
namespace Go.Proofs.Ytlmcfclonncgbaa
open Go.RowKit
set_option linter.unusedVariables false
set_option linter.unusedSimpArgs false

theorem store_res {own own3 : Nat → Nat} {w w3 : World} {q idz : Nat} {z0 z1 z2 z3 z4 z5 v0 v1 v2 v3 v4 v5 : Value} {t : Tm} {sl : Value} (hx : Ext own own3 [] w w3) (hq : w.heap.size ≤ q) (hZ : Blk own3 idz w3 q [z0, z1, z2, z3, z4, z5] 25) (hz0 : idz ≠ 0) (hT : TmS own3 w3 t sl) :
    Ext own own3 [] w (((((((w3).setCell ⟨q, 0, none⟩ (v0)).setCell ⟨q, 1, none⟩ (v1)).setCell ⟨q, 2, none⟩ (v2)).setCell ⟨q, 3, none⟩ (v3)).setCell ⟨q, 4, none⟩ (v4)).setCell ⟨q, 5, none⟩ (v5)) ∧ TmS own3 (((((((w3).setCell ⟨q, 0, none⟩ (v0)).setCell ⟨q, 1, none⟩ (v1)).setCell ⟨q, 2, none⟩ (v2)).setCell ⟨q, 3, none⟩ (v3)).setCell ⟨q, 4, none⟩ (v4)).setCell ⟨q, 5, none⟩ (v5)) t sl ∧ Blk own3 idz (((((((w3).setCell ⟨q, 0, none⟩ (v0)).setCell ⟨q, 1, none⟩ (v1)).setCell ⟨q, 2, none⟩ (v2)).setCell ⟨q, 3, none⟩ (v3)).setCell ⟨q, 4, none⟩ (v4)).setCell ⟨q, 5, none⟩ (v5)) q [v0, v1, v2, v3, v4, v5] 25 := by
  have hc : own3 q ∈ [idz] := by rw [hZ.2]; simp
  have hnl : ¬ (q < w.heap.size) := by omega
  have y0 : Ext own3 own3 [idz] w3 (((((((w3).setCell ⟨q, 0, none⟩ (v0)).setCell ⟨q, 1, none⟩ (v1)).setCell ⟨q, 2, none⟩ (v2)).setCell ⟨q, 3, none⟩ (v3)).setCell ⟨q, 4, none⟩ (v4)).setCell ⟨q, 5, none⟩ (v5)) := ((((((Ext.refl own3 [idz] w3).setCell ⟨q, 0, none⟩ _ (fun _ => hc)).setCell ⟨q, 1, none⟩ _ (fun _ => hc)).setCell ⟨q, 2, none⟩ _ (fun _ => hc)).setCell ⟨q, 3, none⟩ _ (fun _ => hc)).setCell ⟨q, 4, none⟩ _ (fun _ => hc)).setCell ⟨q, 5, none⟩ _ (fun _ => hc)
  exact ⟨((((((hx).setCell ⟨q, 0, none⟩ _ (fun h => absurd h hnl)).setCell ⟨q, 1, none⟩ _ (fun h => absurd h hnl)).setCell ⟨q, 2, none⟩ _ (fun h => absurd h hnl)).setCell ⟨q, 3, none⟩ _ (fun h => absurd h hnl)).setCell ⟨q, 4, none⟩ _ (fun h => absurd h hnl)).setCell ⟨q, 5, none⟩ _ (fun h => absurd h hnl), TmS.keep y0 (by simpa using Ne.symm hz0) t _ hT, (((((hZ.set 0 _).set 1 _).set 2 _).set 3 _).set 4 _).set 5 _⟩
set_option maxHeartbeats 1600000 in
set_option maxRecDepth 100000 in
theorem rplain_any (t : Tm) (sl : Value) (own : Nat → Nat) (w : World) (h : TmS own w t sl) (hm : mayE t = 0) : Calls Try.prog 90 #[valT t sl] w (MadeT own w (cl t)) := by
  obtain ⟨A, len, cap, rfl, hL⟩ := h.args
  have e : valT t (.slice A len cap) = .agg #[.int .i64 t.kind, .string t.name, .int .i64 t.int, .int .u64 t.re, .int .u64 t.im, .slice A len cap] := rfl
  rw [e]
  have hm' : (mayE t == 0) = true := by simpa using hm
  obtain ⟨hk, hf, _, _⟩ := mayE_zero.1 hm
  obtain ⟨idc, hidc⟩ : ∃ i : Nat, i = 0 := ⟨_, rfl⟩
  obtain ⟨F0', hF0', hFF⟩ := own_ne own w.heap.size
  obtain ⟨F0, hF0⟩ : ∃ F, F0' + idc = F := ⟨_, rfl⟩
  obtain ⟨x1, kb, y1⟩ := (Ext.refl own [] w).box [.int .i64 t.kind, .string t.name, .int .i64 t.int, .int .u64 t.re, .int .u64 t.im, .slice A len cap] 25 F0
  generalize _root_.Go.Proofs.Ytlmcfclonncgbaa.give own w.heap.size F0 = o1 at *
  obtain ⟨x2, kZ, y2⟩ := x1.box [.int .i64 0, .string ByteArray.empty, .int .i64 0, .int .u64 0, .int .u64 0, .slice none 0 0] 25 (F0 + 4)
  generalize _root_.Go.Proofs.Ytlmcfclonncgbaa.give o1 (w.alloc (.cells #[.int .i64 t.kind, .string t.name, .int .i64 t.int, .int .u64 t.re, .int .u64 t.im, .slice A len cap] 25)).heap.size (F0 + 4) = o2 at *
  simp only [World.size_alloc] at kZ

  have hT := TmS.keep y2 (by simp) t _ (TmS.keep y1 (by simp) t _ h)
  have k2 := kb.keep y2 (by simp)
  have hz4 : F0 + 4 ∉ ([] : List Nat) := by simp
  have HX := Lib.hid (And.intro x2 (And.intro kZ (And.intro hk (fine_slim hf))))
  clear h hL x1 y1 x2 y2 kb hFF hf hk hm hidc hF0
  have c0 := k2.cell 0 rfl; have c1 := k2.cell 1 rfl; have c2 := k2.cell 2 rfl; have c3 := k2.cell 3 rfl; have c4 := k2.cell 4 rfl; have c5 := k2.cell 5 rfl
  go_enter Try.func90, Try.ntmps90
  go_wp2_with (first
    | (go_at_call 24; have hc := rmay_any t _ o2 _ hT; rw [e] at hc; refine hc.mono ?_; rintro e3 w3 ⟨own3, x3, rfl⟩; have k3 := k2.keep x3 (by simp); have hT3 := TmS.keep x3 (by simp) t _ hT; have kZ3 := kZ.keep x3 (by simp); have d0 := k3.cell 0 rfl; have d1 := k3.cell 1 rfl; have d2 := k3.cell 2 rfl; have d3 := k3.cell 3 rfl; have d4 := k3.cell 4 rfl; have d5 := k3.cell 5 rfl)
    | (go_at_call 106; have hc := plain_any t _ own3 _ hT3 HX.out.2.2.1 HX.out.2.2.2; rw [e] at hc; refine hc.mono ?_; rintro e4 w4 ⟨own4, x4, A3, l3, cp3, (rfl : e4 = .returned (.agg #[.int .i64 (un (cl t)).kind, .string (un (cl t)).name, .int .i64 (un (cl t)).int, .int .u64 (un (cl t)).re, .int .u64 (un (cl t)).im, .slice A3 l3 cp3])), hT4⟩; have kZ4 := kZ3.keep x4 (by simp); have X4 := (HX.out.1.trans x3).trans x4; have b0 := kZ4.cell 0 rfl; have b1 := kZ4.cell 1 rfl; have b2 := kZ4.cell 2 rfl; have b3 := kZ4.cell 3 rfl; have b4 := kZ4.cell 4 rfl; have b5 := kZ4.cell 5 rfl; have bf0 := kZ4.free 0; have bf1 := kZ4.free 1; have bf2 := kZ4.free 2; have bf3 := kZ4.free 3; have bf4 := kZ4.free 4; have bf5 := kZ4.free 5))
  have HE := Lib.hid (store_res (v0 := .int .i64 (un (cl t)).kind) (v1 := .string (un (cl t)).name) (v2 := .int .i64 (un (cl t)).int) (v3 := .int .u64 (un (cl t)).re) (v4 := .int .u64 (un (cl t)).im) (v5 := .slice A3 l3 cp3) X4 (by omega) kZ4 (by omega) hT4)
  (try simp only [Exit.inBlock, Exit.then])
  refine bodyPost_ret (v := .agg #[.int .i64 (un (cl t)).kind, .string (un (cl t)).name, .int .i64 (un (cl t)).int, .int .u64 (un (cl t)).re, .int .u64 (un (cl t)).im, .slice A3 l3 cp3]) ?_ rfl ?_
  · rw [results_cell1 rfl]
    have kk := HE.out.2.2
    have z0 := kk.cell 0 rfl
    have z1 := kk.cell 1 rfl
    have z2 := kk.cell 2 rfl
    have z3 := kk.cell 3 rfl
    have z4 := kk.cell 4 rfl
    have z5 := kk.cell 5 rfl
    go_simp
    try rfl
  · exact ⟨own4, HE.out.1, A3, l3, cp3, rfl, HE.out.2.1⟩

end Go.Proofs.Ytlmcfclonncgbaa
