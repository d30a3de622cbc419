/- The walk of the law StoreSmall: an atom, a small number take no cell; others just what they need. -/
import Derived.Test.YtlmcfclonncgbaaAwake7
import Derived.Test.YtlmcfclonncgbaaSmallLaw
import Derived.Laws.EntriesVeiled
namespace Go.Proofs.Ytlmcfclonncgbaa
open Go.RowKit
set_option linter.unusedVariables false
set_option linter.unusedSimpArgs false

set_option maxRecDepth 100000 in
set_option maxHeartbeats 4000000 in
theorem storeSmall_walk (v0 : Value) (t : Tm) {w : World} (ht : ∃ sl, v0 = valT t sl ∧ TmS own0 w t sl) (_w : World) :
    Calls Try.prog 3 #[v0] w fun e w' => e = .returned (.bool true) ∧ Below w.heap.size w w' := by
  obtain ⟨sl, rfl, hT⟩ := ht
  obtain ⟨A, len, cap, rfl, hL⟩ := hT.args
  have e : valT t (.slice A len cap) = .agg #[.int .i64 t.kind, .string t.name, .int .i64 t.int, .int .u64 t.re, .int .u64 t.im, .slice A len cap] := rfl
  rw [e]
  clear hL
  obtain ⟨x1, kb, _⟩ := (Ext.refl own0 [] w).box [.int .i64 t.kind, .string t.name, .int .i64 t.int, .int .u64 t.re, .int .u64 t.im, .slice A len cap] 25 0
  replace hT := TmS.keep x1 (by simp) t _ hT
  generalize _root_.Go.Proofs.Ytlmcfclonncgbaa.give own0 w.heap.size 0 = o1 at *
  obtain ⟨x2, hL2⟩ := TmL.built o1 (w.alloc (.cells #[.int .i64 t.kind, .string t.name, .int .i64 t.int, .int .u64 t.re, .int .u64 t.im, .slice A len cap] 25)) [(t, .slice A len cap)] (by intro z hz; simp at hz; subst hz; exact hT) (by simp [maxLen]) 25 [.int .i64 t.kind, .string t.name, .int .i64 t.int, .int .u64 t.re, .int .u64 t.im, .slice A len cap] rfl
  simp only [World.size_alloc, List.length_cons, List.length_nil, List.map_cons, List.map_nil] at x2 hL2
  generalize _root_.Go.Proofs.Ytlmcfclonncgbaa.give o1 (w.heap.size + 1) 0 = o2 at *
  have X2 := x1.trans x2
  have hT2 := TmS.keep x2 (by simp) t _ hT
  have k2 := kb.keep x2 (by simp)
  have c0 := kb.cell 0 rfl
  have c1 := kb.cell 1 rfl
  have c2 := kb.cell 2 rfl
  have c3 := kb.cell 3 rfl
  have c4 := kb.cell 4 rfl
  have c5 := kb.cell 5 rfl
  have hlight := rlight_any [t] _ _ _ o2 _ hL2
  have HLI := Lib.hid hlight
  have HT := Lib.hid hT2
  clear hlight hL2 hT hT2 x1 x2
  by_cases hli : lightA [t] 0 4000 = true
  · by_cases hm : mayE t = 0
    · have hk := (mayE_zero.1 hm).1
      have hm' : (mayE t == 0) = true := by simpa using hm
      have hrg := tms_ranged t _ HT.out hk
      obtain ⟨hs1, hs2⟩ := small_law t hm hrg
      have hcl := cnt_le t hm
      obtain ⟨R, hR⟩ : ∃ R, putR 1048576 t ⟨[], names0, []⟩ = R := ⟨_, rfl⟩
      rw [hR] at hs1 hs2
      rw [hli] at HLI
      obtain ⟨S, c, e0⟩ := R
      obtain rfl : e0 = 0 := hs1
      have HS := Lib.hid (And.intro hR (And.intro hs2 hcl))
      clear hs2 hR hcl hk hrg hli
      go_enter Try.func3, Try.ntmps3
      go_wp2_with (first
        | (go_at_call 23; refine Calls.mono HLI.out ?_; rintro e w3 ⟨own3, x3, rfl⟩; have X3 := X2.trans x3; have k3 := k2.keep x3 (by simp); have hT3 := TmS.keep x3 (by simp) t _ HT.out; have d0 := k3.cell 0 rfl; have d1 := k3.cell 1 rfl; have d2 := k3.cell 2 rfl; have d3 := k3.cell 3 rfl; have d4 := k3.cell 4 rfl; have d5 := k3.cell 5 rfl)
        | (go_at_call 24; refine (rmay_any t _ own3 _ hT3).mono ?_; rintro e w4 ⟨own4, x4, rfl⟩; have X4 := X3.trans x4; have k4 := k3.keep x4 (by simp); have hT4 := TmS.keep x4 (by simp) t _ hT3)
        | (go_at_call 26; refine (new_any own4 1 1048576 _).mono ?_; rintro e w5 ⟨own5, x5, rfl, hlt5, h5⟩; have X5 := X4.trans x5; have k5 := k4.keep x5 (by simp); have hT5 := TmS.keep x5 (by simp) t _ hT4)
        | (go_at_call 27; refine (anew_any own5 2 3 _ (by decide)).mono ?_; rintro e w6 ⟨own6, pt, x6, rfl, hle6, hlt6, t6⟩; have X6 := X5.trans x6; have k6 := k5.keep x6 (by simp); have hT6 := TmS.keep x6 (by simp) t _ hT5; have h6 := h5.keep x6 (by decide); have hput := put_any own6 1 2 3 4 (by constructor <;> decide) w6 _ pt none (mostOf 1048576) t _ ⟨[], names0, []⟩ hT6 h6 t6 (Or.inl ⟨rfl, rfl⟩) (by decide); rw [e, show putR (mostOf 1048576) t ⟨[], names0, []⟩ = (S, c, 0) from HS.out.1] at hput; have f0 := k6.cell 0 rfl; have f1 := k6.cell 1 rfl; have f2 := k6.cell 2 rfl; have f3 := k6.cell 3 rfl; have f4 := k6.cell 4 rfl; have f5 := k6.cell 5 rfl)
        | (go_at_call 28; refine Calls.mono hput ?_; rintro e w7 ⟨own7, x7, (rfl : e = .returned (.tuple #[.int .u64 c, .int .i64 0])), h7, t7, _⟩; have X7 := (X6.mono (jds := [1, 2, 3, 4]) (by simp)).trans x7; have k7 := k6.keep x7 (by simp); have hT7 := TmS.keep x7 (by simp) t _ hT6; have hlt7 := k7.lt; have g0 := k7.cell 0 rfl; have g1 := k7.cell 1 rfl; have g2 := k7.cell 2 rfl; have g3 := k7.cell 3 rfl; have g4 := k7.cell 4 rfl; have g5 := k7.cell 5 rfl))
      obtain ⟨x8, kn, y8⟩ := X7.box [.int .i64 ((0 : Nat) : Int)] 3 5
      obtain ⟨x9, kw, y9⟩ := x8.box [.func (.func 29) #[] #[.pointer (some ⟨w7.heap.size, 0, none⟩), .pointer (some ⟨w7.heap.size + 1, 0, none⟩)]] 37 6
      rw [World.size_alloc] at x9 kw y9
      have z9 := y8.trans y9
      have kn9 := kn.keep y9 (by simp)
      have hT9 := TmS.keep z9 (by simp) t _ hT7
      have h9 := h7.keep z9 (by simp)
      have hcall := walk29_any 5 6 w7.heap.size (w7.heap.size + 1) (by decide) (by decide) (by decide) t _ true 0 _ _ hT9 kn9 kw (by have := HS.out.2.2; omega)
      rw [e] at hcall
      have HC := Lib.hid (And.intro hcall (And.intro h9 x9))
      have hlen : ((0 + cntF t true : Nat) : Int) = S.l.length := by have := HS.out.2.1; simp at this ⊢; omega
      clear hcall h9 x9 kn kn9 kw y8 y9 z9 hT9 x8
      refine Calls.mono HC.out.1 ?_
      rintro e w10 ⟨own10, x10, rfl, kn10⟩
      have h10 := HC.out.2.1.keep x10 (by decide)
      have X10 := (HC.out.2.2.mono (jds := [1, 2, 3, 4, 5]) (by decide)).trans (x10.mono (by decide))
      rw [hlen] at kn10
      clear hlen
      generalize hnb : w7.heap.size = nb at *
      have HS0 : w10.drew.cell? ⟨nb, 0, none⟩ = some (.int .i64 S.l.length) := kn10.cell 0 rfl
      have HS1 : ∀ n, (w10.drew.drewN n).cell? ⟨nb, 0, none⟩ = some (.int .i64 S.l.length) := fun n => kn10.cell 0 rfl
      have HL := Lib.hid (len_any own10 1 _ _ S.l w10.drew (h10.keep (Ext.refl own10 [] w10).drew (by decide)))
      go_wp2_with fail
      refine wp_calm ?_
      refine wp_region_till 3 (fun W => W.cell? ⟨nb, 0, none⟩ = some (.int .i64 S.l.length)) (by kernel_rfl) ?_
      refine wpTill_free 0 (v := ?_) rfl (by kernel_rfl) (by kernel_rfl) (by kernel_rfl) (by kernel_rfl) (fun _ _ _ h => h) rfl (fun _ => HS0) ?_ ?_
      rotate_left 1
      · intro w; go_simp; try with_reducible rfl
      try simp only [Act.put, List.setIfInBounds_toArray, List.set_cons_zero, List.set_cons_succ, List.getElem_toArray, List.getElem_cons_succ, List.getElem_cons_zero]
      refine wpTill_take 2 (v := ?_) rfl (by kernel_rfl) (by kernel_rfl) (by kernel_rfl) (by kernel_rfl) (by kernel_rfl) (fun _ _ _ h => h) rfl HS0 ?_ ?_
      rotate_left 1
      · intro w hSw; go_split_ands; go_simp; try with_reducible rfl
      try simp only [Act.put, List.setIfInBounds_toArray, List.set_cons_zero, List.set_cons_succ, List.getElem_toArray, List.getElem_cons_succ, List.getElem_cons_zero]
      refine wpTill_one 1 rfl (by kernel_rfl) rfl (fun K hK => ?_)
      go_simp
      refine Calls.mono HL.out ?_
      rintro e w11 ⟨rfl, n11, rfl⟩
      refine hK.out _ _ (fun _ => HS1 _) ?_
      clear hK K
      try simp only [Act.put, List.setIfInBounds_toArray, List.set_cons_zero, List.set_cons_succ, List.getElem_toArray, List.getElem_cons_succ, List.getElem_cons_zero]
      refine wpTill_pure 3 (v := ?_) rfl (by kernel_rfl) (by kernel_rfl) rfl ?_ ?_
      rotate_left 1
      · go_simp; try with_reducible rfl
      try simp only [Act.put, List.setIfInBounds_toArray, List.set_cons_zero, List.set_cons_succ, List.getElem_toArray, List.getElem_cons_succ, List.getElem_cons_zero]
      refine wpTill_pure 4 (v := ?_) rfl (by kernel_rfl) (by kernel_rfl) rfl ?_ ?_
      rotate_left 1
      · go_simp; try with_reducible rfl
      try simp only [Act.put, List.setIfInBounds_toArray, List.set_cons_zero, List.set_cons_succ, List.getElem_toArray, List.getElem_cons_succ, List.getElem_cons_zero]
      refine wpTill_one 5 rfl (by kernel_rfl) rfl (fun K hK => ?_)
      go_simp
      refine (awake7_any _).mono ?_
      rintro e w12 ⟨rfl, hb12⟩
      refine hK.out _ _ (Till.gone (by kernel_rfl)) ?_
      clear hK K
      try simp only [Act.put, List.setIfInBounds_toArray, List.set_cons_zero, List.set_cons_succ, List.getElem_toArray, List.getElem_cons_succ, List.getElem_cons_zero]
      refine wpTill_pure 6 (v := ?_) rfl (by kernel_rfl) (by kernel_rfl) rfl ?_ ?_
      rotate_left 1
      · go_simp; try with_reducible rfl
      try simp only [Act.put, List.setIfInBounds_toArray, List.set_cons_zero, List.set_cons_succ, List.getElem_toArray, List.getElem_cons_succ, List.getElem_cons_zero]
      refine wpTill_pure 7 (v := ?_) rfl (by kernel_rfl) (by kernel_rfl) rfl ?_ ?_
      rotate_left 1
      · go_simp; try with_reducible rfl
      try simp only [Act.put, List.setIfInBounds_toArray, List.set_cons_zero, List.set_cons_succ, List.getElem_toArray, List.getElem_cons_succ, List.getElem_cons_zero]
      refine wpTill_done (by kernel_rfl) ?_ _
      go_wp2_with fail
      go_ret
      exact ⟨rfl, ((X10.drewN (1 + n11)).belowStep hb12).below (fun _ _ => rfl) (by decide)⟩
    · have hm' : (mayE t == 0) = false := by simpa using hm
      rw [hli] at HLI
      go_enter Try.func3, Try.ntmps3
      go_wp2_with (first
        | (go_at_call 23; refine Calls.mono HLI.out ?_; rintro e w3 ⟨own3, x3, rfl⟩; have X3 := X2.trans x3; have k3 := k2.keep x3 (by simp); have hT3 := TmS.keep x3 (by simp) t _ HT.out; have d0 := k3.cell 0 rfl; have d1 := k3.cell 1 rfl; have d2 := k3.cell 2 rfl; have d3 := k3.cell 3 rfl; have d4 := k3.cell 4 rfl; have d5 := k3.cell 5 rfl)
        | (go_at_call 24; refine (rmay_any t _ own3 _ hT3).mono ?_; rintro e w4 ⟨own4, x4, rfl⟩; have X4 := X3.trans x4)
        | (go_at_call 25; refine (awake7_any _).mono ?_; rintro e w5 ⟨rfl, hb5⟩))
      go_ret
      exact ⟨rfl, (X4.belowStep hb5).below (fun _ _ => rfl) (by decide)⟩
  · rw [show lightA [t] 0 4000 = false from by simpa using hli] at HLI
    go_enter Try.func3, Try.ntmps3
    go_wp2_with (first
      | (go_at_call 23; refine Calls.mono HLI.out ?_; rintro e w3 ⟨own3, x3, rfl⟩; have X3 := X2.trans x3)
      | (go_at_call 25; refine (awake7_any _).mono ?_; rintro e w5 ⟨rfl, hb5⟩))
    go_ret
    exact ⟨rfl, (X3.belowStep hb5).below (fun _ _ => rfl) (by decide)⟩

end Go.Proofs.Ytlmcfclonncgbaa
