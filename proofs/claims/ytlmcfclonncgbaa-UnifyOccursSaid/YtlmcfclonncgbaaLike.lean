/- The reference's Like, Same (package elenchusref1). -/
import Derived.Test.YtlmcfclonncgbaaPk3
import Derived.Test.YtlmcfclonncgbaaPk4
import Derived.Test.YtlmcfclonncgbaaPk1
import Derived.Test.YtlmcfclonncgbaaPk2
namespace Go.Proofs.Ytlmcfclonncgbaa
open Go.RowKit
set_option linter.unusedVariables false
set_option linter.unusedSimpArgs false

theorem likeBs_cons (a b : Tm) (l m : List Tm) : likeBs (a :: l) (b :: m) = (likeB a b && likeBs l m) := rfl
set_option maxHeartbeats 1600000 in
set_option maxRecDepth 100000 in
theorem like_any : ∀ (a : Tm) (sa : Value) (b : Tm) (sb : Value) (own : Nat → Nat) (w : World), TmS own w a sa → TmS own w b sb →
    Calls Try.prog 93 #[valT a sa, valT b sb] w (Does own [] w fun own' e w' => e = .returned (.bool (likeB a b))) := by
  refine Tm.ind ?_
  intro k s n re im args ih sa b sb own w h h2
  obtain ⟨k2, s2, n2, re2, im2, args2⟩ := b
  obtain ⟨A, len, cap, rfl, hL⟩ := h.args
  obtain ⟨A2, len2, cap2, rfl, hL2⟩ := h2.args
  rw [valT_mk, valT_mk]
  have hlen : args.length = len := hL.1
  have hlen2 : args2.length = len2 := hL2.1
  obtain ⟨x1, kb, y1⟩ := (Ext.refl own [] w).box [.int .i64 k, .string s, .int .i64 n, .int .u64 re, .int .u64 im, .slice A len cap] 25 0
  obtain ⟨x2, kb2, y2⟩ := x1.box [.int .i64 k2, .string s2, .int .i64 n2, .int .u64 re2, .int .u64 im2, .slice A2 len2 cap2] 25 0
  have hLL : TmL _ _ args A len cap := (hL.keep y1 (by simp)).keep y2 (by simp)
  have hLL2 : TmL _ _ args2 A2 len2 cap2 := (hL2.keep y1 (by simp)).keep y2 (by simp)
  have ka := kb.keep y2 (by simp)
  simp only [World.size_alloc] at kb2 ka hLL hLL2 x2
  generalize _root_.Go.Proofs.Ytlmcfclonncgbaa.give (_root_.Go.Proofs.Ytlmcfclonncgbaa.give own w.heap.size 0) (w.heap.size + 1) 0 = o3 at *
  have c0 := ka.cell 0 rfl; have c1 := ka.cell 1 rfl; have c2 := ka.cell 2 rfl; have c3 := ka.cell 3 rfl; have c4 := ka.cell 4 rfl; have c5 := ka.cell 5 rfl
  have d0 := kb2.cell 0 rfl; have d1 := kb2.cell 1 rfl; have d2 := kb2.cell 2 rfl; have d3 := kb2.cell 3 rfl; have d4 := kb2.cell 4 rfl; have d5 := kb2.cell 5 rfl
  have hle := hL.2.1
  have hmax := hL.2.2.1
  unfold maxLen at hmax
  have HX := Lib.hid (And.intro x2 (And.intro hLL (And.intro hLL2 (And.intro ka (And.intro kb2 (And.intro hlen hlen2))))))
  have HIH := Lib.hid ih
  obtain ⟨R, hR⟩ : ∃ R, likeB (.mk k s n re im args) (.mk k2 s2 n2 re2 im2 args2) = R := ⟨_, rfl⟩
  rw [hR]
  unfold likeB at hR
  clear h h2 hL hL2 x1 x2 y1 y2 kb kb2 ka hLL hLL2 ih
  by_cases hkk : k = k2
  · subst hkk
    rw [if_neg (by simp)] at hR
    by_cases h1 : k = 1
    · subst h1
      rw [if_pos (Or.inl rfl)] at hR
      have HRR := Lib.hid hR
      clear hR
      go_enter Try.func93, Try.ntmps93
      go_wp2_with fail
      go_ret
      exact ⟨o3, HX.out.1, by rw [← HRR.out]; rfl⟩
    · have h1' : (k == 1) = false := by simpa using h1
      by_cases h3 : k = 3
      · subst h3
        rw [if_pos (Or.inr rfl)] at hR
        have HRR := Lib.hid hR
        clear hR
        go_enter Try.func93, Try.ntmps93
        go_wp2_with fail
        go_ret
        exact ⟨o3, HX.out.1, by rw [← HRR.out]; rfl⟩
      · have h3' : (k == 3) = false := by simpa using h3
        rw [if_neg (by rintro (h | h) <;> contradiction)] at hR
        by_cases h22 : k = 2
        · subst h22
          rw [if_pos rfl] at hR
          have hse := str_eq s s2
          have HRR := Lib.hid hR
          clear hR
          go_enter Try.func93, Try.ntmps93
          go_wp2_with fail
          go_ret
          exact ⟨o3, HX.out.1, by rw [← HRR.out]; rfl⟩
        · rw [if_neg h22] at hR
          have h2' : (k == 2) = false := by simpa using h22
          by_cases h4 : k = 4
          · subst h4
            rw [if_pos rfl] at hR
            by_cases hre : re = re2
            · subst hre
              have HRR := Lib.hid hR
              clear hR
              go_enter Try.func93, Try.ntmps93
              go_wp2_with fail
              all_goals (go_ret)
              all_goals (exact ⟨o3, HX.out.1, by rw [← HRR.out]; first | rfl | simp⟩)
            · have hre' : (re == re2) = false := by simpa using hre
              have HRR := Lib.hid hR
              have HRE := Lib.hid hre
              clear hR hre
              go_enter Try.func93, Try.ntmps93
              go_wp2_with fail
              all_goals (go_ret)
              all_goals (exact ⟨o3, HX.out.1, by rw [← HRR.out, decide_eq_false HRE.out]; rfl⟩)
          · rw [if_neg h4] at hR
            have h4' : (k == 4) = false := by simpa using h4
            by_cases hs : s = s2
            · subst hs
              have hss := str_same s
              by_cases hll : len = len2
              · subst hll
                rw [if_neg (by rw [hlen, hlen2]; simp)] at hR
                have HRR := Lib.hid hR
                have hlenq := hlen
                have hlenq2 := hlen2
                clear hR hlen hlen2 h1 h3 h22 h4
                have HH := Lib.hid (And.intro hlenq hlenq2)
                clear hlenq hlenq2
                go_enter Try.func93, Try.ntmps93
                go_wp2_with fail
                go_loopw [59] (fun v wr => ∃ (j : Nat) (own' : Nat → Nat), v = .int .i64 j ∧ j ≤ len ∧ Ext o3 own' [] ((w.alloc (.cells #[.int .i64 k, .string s, .int .i64 n, .int .u64 re, .int .u64 im, .slice A len cap] 25)).alloc (.cells #[.int .i64 k, .string s, .int .i64 n2, .int .u64 re2, .int .u64 im2, .slice A2 len cap2] 25)) wr ∧ likeBs (args.drop j) (args2.drop j) = R) (fun v _ => len - (intOf v).toNat)
                case atStart => exact ⟨0, o3, rfl, Nat.zero_le _, Ext.refl _ _ _, HRR.out⟩
                case round =>
                  obtain ⟨j, own', rfl, hj, x, hinv⟩ := hrel
                  by_cases hlt : j < len
                  · have hLr := HX.out.2.1.keep x (by simp)
                    have hLr2 := HX.out.2.2.1.keep x (by simp)
                    have ka := HX.out.2.2.2.1.keep x (by simp)
                    have kb := HX.out.2.2.2.2.1.keep x (by simp)
                    obtain ⟨b, o, rfl⟩ := hLr.addr (by omega)
                    obtain ⟨b2, o2, rfl⟩ := hLr2.addr (by omega)
                    obtain ⟨ta, sa, hta, hTa, e0, e1, e2, e3, e4, e5⟩ := hLr.at j hlt
                    obtain ⟨tb, sb, htb, hTb, f0, f1, f2, f3, f4, f5⟩ := hLr2.at j hlt
                    obtain ⟨A3, l3, c3, rfl, _⟩ := hTa.args
                    obtain ⟨A4, l4, c4, rfl, _⟩ := hTb.args
                    have hda : args.drop j = ta :: args.drop (j + 1) := by rw [List.drop_eq_getElem_cons (List.getElem?_eq_some_iff.1 hta).1, (List.getElem?_eq_some_iff.1 hta).2]
                    have hdb : args2.drop j = tb :: args2.drop (j + 1) := by rw [List.drop_eq_getElem_cons (List.getElem?_eq_some_iff.1 htb).1, (List.getElem?_eq_some_iff.1 htb).2]
                    rw [hda, hdb, likeBs_cons] at hinv
                    have hTa2 : TmS own' wr.drew ta (.slice A3 l3 c3) := TmS.keep (Ext.refl own' [] wr).drew (by simp) ta _ hTa
                    have hTb2 : TmS own' wr.drew tb (.slice A4 l4 c4) := TmS.keep (Ext.refl own' [] wr).drew (by simp) tb _ hTb
                    have hcall := HIH.out ta (List.mem_of_getElem? hta) _ tb _ own' wr.drew hTa2 hTb2
                    rw [show valT ta (.slice A3 l3 c3) = .agg #[.int .i64 ta.kind, .string ta.name, .int .i64 ta.int, .int .u64 ta.re, .int .u64 ta.im, .slice A3 l3 c3] from rfl, show valT tb (.slice A4 l4 c4) = .agg #[.int .i64 tb.kind, .string tb.name, .int .i64 tb.int, .int .u64 tb.re, .int .u64 tb.im, .slice A4 l4 c4] from rfl] at hcall
                    have HS : wr.drew.cell? ⟨w.heap.size, 5, none⟩ = some (.slice (some ⟨b, o, none⟩) len cap) ∧ wr.drew.cell? ⟨w.heap.size + 1, 5, none⟩ = some (.slice (some ⟨b2, o2, none⟩) len cap2) ∧ wr.drew.cell? ⟨b, o + j * 6, none⟩ = some (.int .i64 ta.kind) ∧ wr.drew.cell? ⟨b, o + j * 6 + 1, none⟩ = some (.string ta.name) ∧ wr.drew.cell? ⟨b, o + j * 6 + 2, none⟩ = some (.int .i64 ta.int) ∧ wr.drew.cell? ⟨b, o + j * 6 + 3, none⟩ = some (.int .u64 ta.re) ∧ wr.drew.cell? ⟨b, o + j * 6 + 4, none⟩ = some (.int .u64 ta.im) ∧ wr.drew.cell? ⟨b, o + j * 6 + 5, none⟩ = some (.slice A3 l3 c3) ∧ wr.drew.cell? ⟨b2, o2 + j * 6, none⟩ = some (.int .i64 tb.kind) ∧ wr.drew.cell? ⟨b2, o2 + j * 6 + 1, none⟩ = some (.string tb.name) ∧ wr.drew.cell? ⟨b2, o2 + j * 6 + 2, none⟩ = some (.int .i64 tb.int) ∧ wr.drew.cell? ⟨b2, o2 + j * 6 + 3, none⟩ = some (.int .u64 tb.re) ∧ wr.drew.cell? ⟨b2, o2 + j * 6 + 4, none⟩ = some (.int .u64 tb.im) ∧ wr.drew.cell? ⟨b2, o2 + j * 6 + 5, none⟩ = some (.slice A4 l4 c4) := ⟨ka.cell 5 rfl, kb.cell 5 rfl, e0, e1, e2, e3, e4, e5, f0, f1, f2, f3, f4, f5⟩
                    have hin : 0 ≤ (j : Int) ∧ (j : Int) < (len : Int) := by omega
                    have hXX := x
                    by_cases hq : likeB ta tb = true
                    · rw [hq] at hcall hinv
                      have HC := Lib.hid (And.intro hcall (And.intro hinv x))
                      clear hcall hinv x hXX hTa hTb hTa2 hTb2 hda hdb hta htb hLr hLr2 ka kb hq
                      go_wp2_with fail
                      refine wp_calmN ?_
                      refine wp_region_till 10 (fun W => W.cell? ⟨w.heap.size, 5, none⟩ = some (.slice (some ⟨b, o, none⟩) len cap) ∧ W.cell? ⟨w.heap.size + 1, 5, none⟩ = some (.slice (some ⟨b2, o2, none⟩) len cap2) ∧ W.cell? ⟨b, o + j * 6, none⟩ = some (.int .i64 ta.kind) ∧ W.cell? ⟨b, o + j * 6 + 1, none⟩ = some (.string ta.name) ∧ W.cell? ⟨b, o + j * 6 + 2, none⟩ = some (.int .i64 ta.int) ∧ W.cell? ⟨b, o + j * 6 + 3, none⟩ = some (.int .u64 ta.re) ∧ W.cell? ⟨b, o + j * 6 + 4, none⟩ = some (.int .u64 ta.im) ∧ W.cell? ⟨b, o + j * 6 + 5, none⟩ = some (.slice A3 l3 c3) ∧ W.cell? ⟨b2, o2 + j * 6, none⟩ = some (.int .i64 tb.kind) ∧ W.cell? ⟨b2, o2 + j * 6 + 1, none⟩ = some (.string tb.name) ∧ W.cell? ⟨b2, o2 + j * 6 + 2, none⟩ = some (.int .i64 tb.int) ∧ W.cell? ⟨b2, o2 + j * 6 + 3, none⟩ = some (.int .u64 tb.re) ∧ W.cell? ⟨b2, o2 + j * 6 + 4, none⟩ = some (.int .u64 tb.im) ∧ W.cell? ⟨b2, o2 + j * 6 + 5, none⟩ = some (.slice A4 l4 c4)) (by kernel_rfl) ?_
                      refine wpTill_free 0 (v := ?_) rfl (by kernel_rfl) (by kernel_rfl) (by kernel_rfl) (by kernel_rfl) (fun _ _ _ h => h) rfl (fun _ => HS) ?_ ?_
                      rotate_left 1
                      · intro w; go_simp; try with_reducible rfl
                      try simp only [Act.put, List.setIfInBounds_toArray, List.set_cons_zero, List.set_cons_succ, List.getElem_toArray, List.getElem_cons_succ, List.getElem_cons_zero]
                      refine wpTill_chain 1 [4, 3] (v := ?_) rfl (by kernel_rfl) (by kernel_rfl) (by kernel_rfl) (by kernel_rfl) (by kernel_rfl) (by kernel_rfl) (fun _ _ _ h => h) rfl HS ?_ ?_
                      rotate_left 1
                      · intro w hSw; go_split_ands; go_simp; try with_reducible rfl
                      try simp only [Act.put, List.setIfInBounds_toArray, List.set_cons_zero, List.set_cons_succ, List.getElem_toArray, List.getElem_cons_succ, List.getElem_cons_zero]
                      refine wpTill_free 2 (v := ?_) rfl (by kernel_rfl) (by kernel_rfl) (by kernel_rfl) (by kernel_rfl) (fun _ _ _ h => h) rfl (fun _ => HS) ?_ ?_
                      rotate_left 1
                      · intro w; go_simp; try with_reducible rfl
                      try simp only [Act.put, List.setIfInBounds_toArray, List.set_cons_zero, List.set_cons_succ, List.getElem_toArray, List.getElem_cons_succ, List.getElem_cons_zero]
                      refine wpTill_free 3 (v := ?_) rfl (by kernel_rfl) (by kernel_rfl) (by kernel_rfl) (by kernel_rfl) (fun _ _ _ h => h) rfl (fun _ => HS) ?_ ?_
                      rotate_left 1
                      · intro w; go_simp; try with_reducible rfl
                      try simp only [Act.put, List.setIfInBounds_toArray, List.set_cons_zero, List.set_cons_succ, List.getElem_toArray, List.getElem_cons_succ, List.getElem_cons_zero]
                      refine wpTill_take 4 (v := ?_) rfl (by kernel_rfl) (by kernel_rfl) (by kernel_rfl) (by kernel_rfl) (by kernel_rfl) (fun _ _ _ h => h) rfl HS ?_ ?_
                      rotate_left 1
                      · intro w hSw; go_split_ands; go_simp; try with_reducible rfl
                      try simp only [Act.put, List.setIfInBounds_toArray, List.set_cons_zero, List.set_cons_succ, List.getElem_toArray, List.getElem_cons_succ, List.getElem_cons_zero]
                      refine wpTill_free 5 (v := ?_) rfl (by kernel_rfl) (by kernel_rfl) (by kernel_rfl) (by kernel_rfl) (fun _ _ _ h => h) rfl (fun _ => HS) ?_ ?_
                      rotate_left 1
                      · intro w; go_simp; try with_reducible rfl
                      try simp only [Act.put, List.setIfInBounds_toArray, List.set_cons_zero, List.set_cons_succ, List.getElem_toArray, List.getElem_cons_succ, List.getElem_cons_zero]
                      refine wpTill_chain 6 [9, 8] (v := ?_) rfl (by kernel_rfl) (by kernel_rfl) (by kernel_rfl) (by kernel_rfl) (by kernel_rfl) (by kernel_rfl) (fun _ _ _ h => h) rfl HS ?_ ?_
                      rotate_left 1
                      · intro w hSw; go_split_ands; go_simp; try with_reducible rfl
                      try simp only [Act.put, List.setIfInBounds_toArray, List.set_cons_zero, List.set_cons_succ, List.getElem_toArray, List.getElem_cons_succ, List.getElem_cons_zero]
                      refine wpTill_free 7 (v := ?_) rfl (by kernel_rfl) (by kernel_rfl) (by kernel_rfl) (by kernel_rfl) (fun _ _ _ h => h) rfl (fun _ => HS) ?_ ?_
                      rotate_left 1
                      · intro w; go_simp; try with_reducible rfl
                      try simp only [Act.put, List.setIfInBounds_toArray, List.set_cons_zero, List.set_cons_succ, List.getElem_toArray, List.getElem_cons_succ, List.getElem_cons_zero]
                      refine wpTill_free 8 (v := ?_) rfl (by kernel_rfl) (by kernel_rfl) (by kernel_rfl) (by kernel_rfl) (fun _ _ _ h => h) rfl (fun _ => HS) ?_ ?_
                      rotate_left 1
                      · intro w; go_simp; try with_reducible rfl
                      try simp only [Act.put, List.setIfInBounds_toArray, List.set_cons_zero, List.set_cons_succ, List.getElem_toArray, List.getElem_cons_succ, List.getElem_cons_zero]
                      refine wpTill_take 9 (v := ?_) rfl (by kernel_rfl) (by kernel_rfl) (by kernel_rfl) (by kernel_rfl) (by kernel_rfl) (fun _ _ _ h => h) rfl HS ?_ ?_
                      rotate_left 1
                      · intro w hSw; go_split_ands; go_simp; try with_reducible rfl
                      try simp only [Act.put, List.setIfInBounds_toArray, List.set_cons_zero, List.set_cons_succ, List.getElem_toArray, List.getElem_cons_succ, List.getElem_cons_zero]
                      refine wpTill_one 10 rfl (by kernel_rfl) rfl (fun K hK => ?_)
                      go_simp
                      refine Calls.mono HC.out.1 ?_
                      rintro e5 w5 ⟨own5, x5, rfl⟩
                      replace x5 := x5.ofDraw
                      refine hK.out _ _ (Till.gone (by kernel_rfl)) ?_
                      clear hK K
                      try simp only [Act.put, List.setIfInBounds_toArray, List.set_cons_zero, List.set_cons_succ, List.getElem_toArray, List.getElem_cons_succ, List.getElem_cons_zero]
                      refine wpTill_pure 11 (v := ?_) rfl (by kernel_rfl) (by kernel_rfl) rfl ?_ ?_
                      rotate_left 1
                      · go_simp; try with_reducible rfl
                      try simp only [Act.put, List.setIfInBounds_toArray, List.set_cons_zero, List.set_cons_succ, List.getElem_toArray, List.getElem_cons_succ, List.getElem_cons_zero]
                      refine wpTill_done (by kernel_rfl) ?_ _
                      go_wp2_with fail
                      go_roundw
                      case measure => simp [intOf]; omega
                      exact ⟨j + 1, own5, by go_num, by omega, HC.out.2.2.trans x5, by simpa using HC.out.2.1⟩
                    · rw [show likeB ta tb = false from by simpa using hq] at hcall hinv
                      have HC := Lib.hid (And.intro hcall (And.intro hinv x))
                      clear hcall hinv x hXX hTa hTb hTa2 hTb2 hda hdb hta htb hLr hLr2 ka kb hq
                      go_wp2_with fail
                      refine wp_calmN ?_
                      refine wp_region_till 10 (fun W => W.cell? ⟨w.heap.size, 5, none⟩ = some (.slice (some ⟨b, o, none⟩) len cap) ∧ W.cell? ⟨w.heap.size + 1, 5, none⟩ = some (.slice (some ⟨b2, o2, none⟩) len cap2) ∧ W.cell? ⟨b, o + j * 6, none⟩ = some (.int .i64 ta.kind) ∧ W.cell? ⟨b, o + j * 6 + 1, none⟩ = some (.string ta.name) ∧ W.cell? ⟨b, o + j * 6 + 2, none⟩ = some (.int .i64 ta.int) ∧ W.cell? ⟨b, o + j * 6 + 3, none⟩ = some (.int .u64 ta.re) ∧ W.cell? ⟨b, o + j * 6 + 4, none⟩ = some (.int .u64 ta.im) ∧ W.cell? ⟨b, o + j * 6 + 5, none⟩ = some (.slice A3 l3 c3) ∧ W.cell? ⟨b2, o2 + j * 6, none⟩ = some (.int .i64 tb.kind) ∧ W.cell? ⟨b2, o2 + j * 6 + 1, none⟩ = some (.string tb.name) ∧ W.cell? ⟨b2, o2 + j * 6 + 2, none⟩ = some (.int .i64 tb.int) ∧ W.cell? ⟨b2, o2 + j * 6 + 3, none⟩ = some (.int .u64 tb.re) ∧ W.cell? ⟨b2, o2 + j * 6 + 4, none⟩ = some (.int .u64 tb.im) ∧ W.cell? ⟨b2, o2 + j * 6 + 5, none⟩ = some (.slice A4 l4 c4)) (by kernel_rfl) ?_
                      refine wpTill_free 0 (v := ?_) rfl (by kernel_rfl) (by kernel_rfl) (by kernel_rfl) (by kernel_rfl) (fun _ _ _ h => h) rfl (fun _ => HS) ?_ ?_
                      rotate_left 1
                      · intro w; go_simp; try with_reducible rfl
                      try simp only [Act.put, List.setIfInBounds_toArray, List.set_cons_zero, List.set_cons_succ, List.getElem_toArray, List.getElem_cons_succ, List.getElem_cons_zero]
                      refine wpTill_chain 1 [4, 3] (v := ?_) rfl (by kernel_rfl) (by kernel_rfl) (by kernel_rfl) (by kernel_rfl) (by kernel_rfl) (by kernel_rfl) (fun _ _ _ h => h) rfl HS ?_ ?_
                      rotate_left 1
                      · intro w hSw; go_split_ands; go_simp; try with_reducible rfl
                      try simp only [Act.put, List.setIfInBounds_toArray, List.set_cons_zero, List.set_cons_succ, List.getElem_toArray, List.getElem_cons_succ, List.getElem_cons_zero]
                      refine wpTill_free 2 (v := ?_) rfl (by kernel_rfl) (by kernel_rfl) (by kernel_rfl) (by kernel_rfl) (fun _ _ _ h => h) rfl (fun _ => HS) ?_ ?_
                      rotate_left 1
                      · intro w; go_simp; try with_reducible rfl
                      try simp only [Act.put, List.setIfInBounds_toArray, List.set_cons_zero, List.set_cons_succ, List.getElem_toArray, List.getElem_cons_succ, List.getElem_cons_zero]
                      refine wpTill_free 3 (v := ?_) rfl (by kernel_rfl) (by kernel_rfl) (by kernel_rfl) (by kernel_rfl) (fun _ _ _ h => h) rfl (fun _ => HS) ?_ ?_
                      rotate_left 1
                      · intro w; go_simp; try with_reducible rfl
                      try simp only [Act.put, List.setIfInBounds_toArray, List.set_cons_zero, List.set_cons_succ, List.getElem_toArray, List.getElem_cons_succ, List.getElem_cons_zero]
                      refine wpTill_take 4 (v := ?_) rfl (by kernel_rfl) (by kernel_rfl) (by kernel_rfl) (by kernel_rfl) (by kernel_rfl) (fun _ _ _ h => h) rfl HS ?_ ?_
                      rotate_left 1
                      · intro w hSw; go_split_ands; go_simp; try with_reducible rfl
                      try simp only [Act.put, List.setIfInBounds_toArray, List.set_cons_zero, List.set_cons_succ, List.getElem_toArray, List.getElem_cons_succ, List.getElem_cons_zero]
                      refine wpTill_free 5 (v := ?_) rfl (by kernel_rfl) (by kernel_rfl) (by kernel_rfl) (by kernel_rfl) (fun _ _ _ h => h) rfl (fun _ => HS) ?_ ?_
                      rotate_left 1
                      · intro w; go_simp; try with_reducible rfl
                      try simp only [Act.put, List.setIfInBounds_toArray, List.set_cons_zero, List.set_cons_succ, List.getElem_toArray, List.getElem_cons_succ, List.getElem_cons_zero]
                      refine wpTill_chain 6 [9, 8] (v := ?_) rfl (by kernel_rfl) (by kernel_rfl) (by kernel_rfl) (by kernel_rfl) (by kernel_rfl) (by kernel_rfl) (fun _ _ _ h => h) rfl HS ?_ ?_
                      rotate_left 1
                      · intro w hSw; go_split_ands; go_simp; try with_reducible rfl
                      try simp only [Act.put, List.setIfInBounds_toArray, List.set_cons_zero, List.set_cons_succ, List.getElem_toArray, List.getElem_cons_succ, List.getElem_cons_zero]
                      refine wpTill_free 7 (v := ?_) rfl (by kernel_rfl) (by kernel_rfl) (by kernel_rfl) (by kernel_rfl) (fun _ _ _ h => h) rfl (fun _ => HS) ?_ ?_
                      rotate_left 1
                      · intro w; go_simp; try with_reducible rfl
                      try simp only [Act.put, List.setIfInBounds_toArray, List.set_cons_zero, List.set_cons_succ, List.getElem_toArray, List.getElem_cons_succ, List.getElem_cons_zero]
                      refine wpTill_free 8 (v := ?_) rfl (by kernel_rfl) (by kernel_rfl) (by kernel_rfl) (by kernel_rfl) (fun _ _ _ h => h) rfl (fun _ => HS) ?_ ?_
                      rotate_left 1
                      · intro w; go_simp; try with_reducible rfl
                      try simp only [Act.put, List.setIfInBounds_toArray, List.set_cons_zero, List.set_cons_succ, List.getElem_toArray, List.getElem_cons_succ, List.getElem_cons_zero]
                      refine wpTill_take 9 (v := ?_) rfl (by kernel_rfl) (by kernel_rfl) (by kernel_rfl) (by kernel_rfl) (by kernel_rfl) (fun _ _ _ h => h) rfl HS ?_ ?_
                      rotate_left 1
                      · intro w hSw; go_split_ands; go_simp; try with_reducible rfl
                      try simp only [Act.put, List.setIfInBounds_toArray, List.set_cons_zero, List.set_cons_succ, List.getElem_toArray, List.getElem_cons_succ, List.getElem_cons_zero]
                      refine wpTill_one 10 rfl (by kernel_rfl) rfl (fun K hK => ?_)
                      go_simp
                      refine Calls.mono HC.out.1 ?_
                      rintro e5 w5 ⟨own5, x5, rfl⟩
                      replace x5 := x5.ofDraw
                      refine hK.out _ _ (Till.gone (by kernel_rfl)) ?_
                      clear hK K
                      try simp only [Act.put, List.setIfInBounds_toArray, List.set_cons_zero, List.set_cons_succ, List.getElem_toArray, List.getElem_cons_succ, List.getElem_cons_zero]
                      refine wpTill_pure 11 (v := ?_) rfl (by kernel_rfl) (by kernel_rfl) rfl ?_ ?_
                      rotate_left 1
                      · go_simp; try with_reducible rfl
                      try simp only [Act.put, List.setIfInBounds_toArray, List.set_cons_zero, List.set_cons_succ, List.getElem_toArray, List.getElem_cons_succ, List.getElem_cons_zero]
                      refine wpTill_done (by kernel_rfl) ?_ _
                      go_wp2_with fail
                      go_ret
                      exact ⟨own5, HX.out.1.trans (HC.out.2.2.trans x5), by rw [← HC.out.2.1]; rfl⟩
                  · obtain rfl : j = len := by omega
                    have hd : args.drop j = [] := List.drop_eq_nil_of_le (by rw [HH.out.1]; exact Nat.le_refl _)
                    rw [hd] at hinv
                    have HI := Lib.hid (And.intro hinv x)
                    clear hinv hd x
                    go_wp2_with fail
                    go_ret
                    exact ⟨own', HX.out.1.trans HI.out.2, by rw [← HI.out.1]; rfl⟩
              · have hll' : ((len : Int) == (len2 : Int)) = false := by simp; omega
                rw [if_pos (by rw [hlen, hlen2]; exact Or.inr hll)] at hR
                have HRR := Lib.hid hR
                clear hR hlen hlen2 h1 h3 h22 h4 hll
                go_enter Try.func93, Try.ntmps93
                go_wp2_with fail
                all_goals (go_ret)
                all_goals (exact ⟨o3, HX.out.1, by rw [← HRR.out]; rfl⟩)
            · have hs' := str_ne hs
              rw [if_pos (Or.inl hs)] at hR
              have HRR := Lib.hid hR
              clear hR hlen hlen2 h1 h3 h22 h4 hs
              go_enter Try.func93, Try.ntmps93
              go_wp2_with fail
              all_goals (go_ret)
              all_goals (exact ⟨o3, HX.out.1, by rw [← HRR.out]; rfl⟩)
  · have hkk' : (k == k2) = false := by simpa using hkk
    rw [if_pos hkk] at hR
    have HRR := Lib.hid hR
    clear hR hkk
    go_enter Try.func93, Try.ntmps93
    go_wp2_with fail
    go_ret
    exact ⟨o3, HX.out.1, by rw [← HRR.out]; rfl⟩
set_option maxHeartbeats 1600000 in
set_option maxRecDepth 100000 in
theorem same_any (a : Tm) (sa : Value) (b : Tm) (sb : Value) (own : Nat → Nat) (w : World) (h : TmS own w a sa) (h2 : TmS own w b sb) :
    Calls Try.prog 51 #[valT a sa, valT b sb] w (Does own [] w fun own' e w' => e = .returned (.bool (sameB a b))) := by
  obtain ⟨A, len, cap, rfl, hL⟩ := h.args
  obtain ⟨A2, len2, cap2, rfl, hL2⟩ := h2.args
  have ea : valT a (.slice A len cap) = .agg #[.int .i64 a.kind, .string a.name, .int .i64 a.int, .int .u64 a.re, .int .u64 a.im, .slice A len cap] := rfl
  have eb : valT b (.slice A2 len2 cap2) = .agg #[.int .i64 b.kind, .string b.name, .int .i64 b.int, .int .u64 b.re, .int .u64 b.im, .slice A2 len2 cap2] := rfl
  rw [ea, eb]
  obtain ⟨x1, kb, y1⟩ := (Ext.refl own [] w).box [.int .i64 a.kind, .string a.name, .int .i64 a.int, .int .u64 a.re, .int .u64 a.im, .slice A len cap] 25 0
  obtain ⟨x2, kb2, y2⟩ := x1.box [.int .i64 b.kind, .string b.name, .int .i64 b.int, .int .u64 b.re, .int .u64 b.im, .slice A2 len2 cap2] 25 0
  have hT := TmS.keep y2 (by simp) a _ (TmS.keep y1 (by simp) a _ h)
  have hT2 := TmS.keep y2 (by simp) b _ (TmS.keep y1 (by simp) b _ h2)
  have ka := kb.keep y2 (by simp)
  simp only [World.size_alloc] at kb2 ka hT hT2 x2
  generalize _root_.Go.Proofs.Ytlmcfclonncgbaa.give (_root_.Go.Proofs.Ytlmcfclonncgbaa.give own w.heap.size 0) (w.heap.size + 1) 0 = o3 at *
  have c0 := ka.cell 0 rfl; have c1 := ka.cell 1 rfl; have c2 := ka.cell 2 rfl; have c3 := ka.cell 3 rfl; have c4 := ka.cell 4 rfl; have c5 := ka.cell 5 rfl
  have d0 := kb2.cell 0 rfl; have d1 := kb2.cell 1 rfl; have d2 := kb2.cell 2 rfl; have d3 := kb2.cell 3 rfl; have d4 := kb2.cell 4 rfl; have d5 := kb2.cell 5 rfl
  obtain ⟨R, hR⟩ : ∃ R, sameB a b = R := ⟨_, rfl⟩
  rw [hR]
  unfold sameB at hR
  have HX := Lib.hid (And.intro x2 (And.intro hT (And.intro hT2 (And.intro ka kb2))))
  clear h h2 hL hL2 x1 x2 y1 y2 kb kb2 ka hT hT2
  by_cases ha : mayE a = 0
  · have ha' : (mayE a == 0) = true := by simpa using ha
    by_cases hb : mayE b = 0
    · have hb' : (mayE b == 0) = true := by simpa using hb
      rw [decide_eq_true ha, decide_eq_true hb] at hR
      have HR := Lib.hid hR
      clear hR ha hb
      go_enter Try.func51, Try.ntmps51
      go_wp2_with (first
        | (go_at_call 24; have hc := rmay_any b _ own3 _ hTb3; rw [eb] at hc; refine hc.mono ?_; rintro e4 w4 ⟨own4, x4, rfl⟩; have hTa4 := TmS.keep x4 (by simp) a _ hTa3; have hTb4 := TmS.keep x4 (by simp) b _ hTb3; have ka4 := ka3.keep x4 (by simp); have kb4 := kb3.keep x4 (by simp); have g0 := ka4.cell 0 rfl; have g1 := ka4.cell 1 rfl; have g2 := ka4.cell 2 rfl; have g3 := ka4.cell 3 rfl; have g4 := ka4.cell 4 rfl; have g5 := ka4.cell 5 rfl; have h0 := kb4.cell 0 rfl; have h1 := kb4.cell 1 rfl; have h2 := kb4.cell 2 rfl; have h3 := kb4.cell 3 rfl; have h4 := kb4.cell 4 rfl; have h5 := kb4.cell 5 rfl)
        | (go_at_call 24; have hc := rmay_any a _ o3 _ HX.out.2.1; rw [ea] at hc; refine hc.mono ?_; rintro e3 w3 ⟨own3, x3, rfl⟩; have hTa3 := TmS.keep x3 (by simp) a _ HX.out.2.1; have hTb3 := TmS.keep x3 (by simp) b _ HX.out.2.2.1; have ka3 := HX.out.2.2.2.1.keep x3 (by simp); have kb3 := HX.out.2.2.2.2.keep x3 (by simp); have e0 := ka3.cell 0 rfl; have e1 := ka3.cell 1 rfl; have e2 := ka3.cell 2 rfl; have e3 := ka3.cell 3 rfl; have e4 := ka3.cell 4 rfl; have e5 := ka3.cell 5 rfl; have f0 := kb3.cell 0 rfl; have f1 := kb3.cell 1 rfl; have f2 := kb3.cell 2 rfl; have f3 := kb3.cell 3 rfl; have f4 := kb3.cell 4 rfl; have f5 := kb3.cell 5 rfl)
        | (go_at_call 93; have hc := like_any a _ b _ own4 _ hTa4 hTb4; rw [ea, eb] at hc; refine hc.mono ?_; rintro e5 w5 ⟨own5, x5, rfl⟩))
      go_ret
      exact ⟨own5, HX.out.1.trans (x3.trans (x4.trans x5)), by rw [← HR.out]; rfl⟩
    · have hb' : (mayE b == 0) = false := by simpa using hb
      rw [decide_eq_true ha, decide_eq_false hb] at hR
      have HR := Lib.hid hR
      clear hR ha hb
      go_enter Try.func51, Try.ntmps51
      go_wp2_with (first
        | (go_at_call 24; have hc := rmay_any b _ own3 _ hTb3; rw [eb] at hc; refine hc.mono ?_; rintro e4 w4 ⟨own4, x4, rfl⟩)
        | (go_at_call 24; have hc := rmay_any a _ o3 _ HX.out.2.1; rw [ea] at hc; refine hc.mono ?_; rintro e3 w3 ⟨own3, x3, rfl⟩; have hTa3 := TmS.keep x3 (by simp) a _ HX.out.2.1; have hTb3 := TmS.keep x3 (by simp) b _ HX.out.2.2.1; have ka3 := HX.out.2.2.2.1.keep x3 (by simp); have kb3 := HX.out.2.2.2.2.keep x3 (by simp); have e0 := ka3.cell 0 rfl; have e1 := ka3.cell 1 rfl; have e2 := ka3.cell 2 rfl; have e3 := ka3.cell 3 rfl; have e4 := ka3.cell 4 rfl; have e5 := ka3.cell 5 rfl; have f0 := kb3.cell 0 rfl; have f1 := kb3.cell 1 rfl; have f2 := kb3.cell 2 rfl; have f3 := kb3.cell 3 rfl; have f4 := kb3.cell 4 rfl; have f5 := kb3.cell 5 rfl))
      go_ret
      exact ⟨own4, HX.out.1.trans (x3.trans x4), by rw [← HR.out]; rfl⟩
  · have ha' : (mayE a == 0) = false := by simpa using ha
    rw [decide_eq_false ha] at hR
    have HR := Lib.hid hR
    clear hR ha
    go_enter Try.func51, Try.ntmps51
    go_wp2_with (go_at_call 24; have hc := rmay_any a _ o3 _ HX.out.2.1; rw [ea] at hc; refine hc.mono ?_; rintro e3 w3 ⟨own3, x3, rfl⟩)
    go_ret
    exact ⟨own3, HX.out.1.trans x3, by rw [← HR.out]; rfl⟩

end Go.Proofs.Ytlmcfclonncgbaa
