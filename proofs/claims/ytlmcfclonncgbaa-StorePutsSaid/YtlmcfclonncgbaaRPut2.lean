/- The reference's put: a variable. -/
import Derived.Test.YtlmcfclonncgbaaRPut1
namespace Go.Proofs.Ytlmcfclonncgbaa
open Go.RowKit
set_option linter.unusedVariables false
set_option linter.unusedSimpArgs false

set_option maxHeartbeats 1000000 in
set_option maxRecDepth 100000 in
theorem rput_var (own : Nat → Nat) (idh ida idv : Nat) (hids : IdsP idh ida idv) (w : World) (ph pa q : Nat) (most at_ : Int) (s : ByteArray) (n re im : Int) (A : Option Addr) (len cap : Nat) (st : SS) (hh : RH own idh w ph most st.l) (ha : RAP own ida w pa st.L) (hV : VP own idv w q st.V) (hr : -9223372036854775808 ≤ n ∧ n ≤ 9223372036854775807) (hat : at_ ≤ 1048576) (hVl : st.V.length < 1000000) :
    Calls Try.prog 91 #[.pointer (some ⟨ph, 0, none⟩), .pointer (some ⟨pa, 0, none⟩), .agg #[.int .i64 1, .string s, .int .i64 n, .int .u64 re, .int .u64 im, .slice A len cap], .map (some q), .int .i64 at_] w (Does own [idh, ida, idv] w fun own' e w' => RPutEnd own' w' idh ida idv ph pa q most (putT most (.var n) at_ st) e) := by
  obtain ⟨W1, hW1⟩ : ∃ W, w.alloc (.cells #[.int .i64 1, .string s, .int .i64 n, .int .u64 re, .int .u64 im, .slice A len cap] 25) = W := ⟨_, rfl⟩
  obtain ⟨o1, x1, kT, y1⟩ := boxV (Ext.refl own [idh, ida, idv] w) [.int .i64 1, .string s, .int .i64 n, .int .u64 re, .int .u64 im, .slice A len cap] 25 0 W1 hW1
  replace hh := hh.keep y1 (by simp)
  replace ha := ha.keep y1 (by simp)
  replace hV := hV.keep y1 (by simp)
  have hI := hids
  obtain ⟨i1, i2, i3, i4, i5, i6⟩ := hids
  have hll := hh.len
  have c0 := kT.cell 0 rfl; have c1 := kT.cell 1 rfl; have c2 := kT.cell 2 rfl; have c3 := kT.cell 3 rfl; have c4 := kT.cell 4 rfl; have c5 := kT.cell 5 rfl
  have hlk := hV.look_ok (t := 52) Try.underlying52 Try.underlying2 Try.underlying34 (zero_cell _) n (wf_i64_mk hr)
  obtain ⟨r, hrr⟩ : ∃ r, putT most (.var n) at_ st = r := ⟨_, rfl⟩
  rw [hrr]
  simp only [putT] at hrr
  unfold varT at hrr
  cases hlook : look st.V n with
  | some c =>
    rw [hlook] at hlk hrr
    simp only [Option.getD_some, Option.isSome_some] at hlk
    simp only at hrr
    subst hrr
    go_enter Try.func91, Try.ntmps91
    go_wp2_with fail
    go_ret2
    exact ⟨o1, x1, ⟨_, rfl, fun _ => rfl⟩, hh, ha, hV⟩
  | none =>
    rw [hlook] at hlk hrr
    simp only [Option.getD_none, Option.isSome_none] at hlk
    simp only at hrr
    by_cases h0 : at_ < 0
    · rw [if_pos h0] at hrr
      have hd0 : decide (at_ < 0) = true := decide_eq_true h0
      by_cases hroom : (st.l.length : Int) < most
      · rw [if_pos hroom] at hrr
        subst hrr
        have hwl : IntKind.u64.wrap (st.l.length : Int) = st.l.length := by rw [wrap_u64]; omega
        go_enter Try.func91, Try.ntmps91
        go_wp2_with (go_at_call 124; refine (rvar_room o1 idh ph most st.l W1 hh hroom).mono ?_; rintro e w2 ⟨own2, x2, rfl, g2⟩; have kTc := kT.keep x2 (by simpa using Ne.symm i1); have hV2 := hV.keep x2 (by simpa using Ne.symm i5); have ha2 := ha.keep x2 (by simpa using Ne.symm i4); have d0 := kTc.cell 0 rfl; have d1 := kTc.cell 1 rfl; have d2 := kTc.cell 2 rfl; have d3 := kTc.cell 3 rfl; have d4 := kTc.cell 4 rfl; have d5 := kTc.cell 5 rfl)
        have hdr := (Ext.refl own2 [] w2).drew
        obtain ⟨w3, hput, hm3, x3, g3⟩ := MV.put (hV2.keep hdr (by simp)) (t := 52) Try.underlying52 Try.underlying2 Try.underlying34 n ((st.l.length : Int) * 8) (wf_i64_mk hr) (wf_u64_mk (by omega) (by omega)) hlook (by omega)
        have hl2 : look (st.V ++ [(n, (st.l.length : Int) * 8)]) n = some ((st.l.length : Int) * 8) := look_new hlook
        have hat2 := hm3.at_ (t := 52) Try.underlying52 Try.underlying2 Try.underlying34 (zero_cell _) n (wf_i64_mk hr)
        rw [hl2, Option.getD_some] at hat2
        have kT3 := (kTc.keep hdr (by simp)).keep x3 (by simpa using Ne.symm i3)
        have e2 := kT3.cell 2 rfl
        have HS : w2.drew.cell? ⟨w.heap.size, 2, none⟩ = some (.int .i64 n) := kTc.cell 2 rfl
        clear hlk
        refine wp_calmN ?_
        refine wp_region_till 6 (fun W => W.cell? ⟨w.heap.size, 2, none⟩ = some (.int .i64 n)) (by kernel_rfl) ?_
        refine wpTill_free 0 (v := ?_) rfl (by kernel_rfl) (by kernel_rfl) (by kernel_rfl) (by kernel_rfl) (fun _ _ _ h => h) rfl (fun _ => HS) ?_ ?_
        rotate_left 1
        · intro w; go_simp; try with_reducible rfl
        try simp only [Act.put, List.setIfInBounds_toArray, List.set_cons_zero, List.set_cons_succ, List.getElem_toArray, List.getElem_cons_succ, List.getElem_cons_zero]
        refine wpTill_free 1 (v := ?_) rfl (by kernel_rfl) (by kernel_rfl) (by kernel_rfl) (by kernel_rfl) (fun _ _ _ h => h) rfl (fun _ => HS) ?_ ?_
        rotate_left 1
        · intro w; go_simp; try with_reducible rfl
        try simp only [Act.put, List.setIfInBounds_toArray, List.set_cons_zero, List.set_cons_succ, List.getElem_toArray, List.getElem_cons_succ, List.getElem_cons_zero]
        refine wpTill_take 2 (v := ?_) rfl (by kernel_rfl) (by kernel_rfl) (by kernel_rfl) (by kernel_rfl) (by kernel_rfl) (fun _ _ _ h => h) rfl HS ?_ ?_
        rotate_left 1
        · intro w hSw; go_split_ands; go_simp; try with_reducible rfl
        try simp only [Act.put, List.setIfInBounds_toArray, List.set_cons_zero, List.set_cons_succ, List.getElem_toArray, List.getElem_cons_succ, List.getElem_cons_zero]
        refine wpTill_free 3 (v := ?_) rfl (by kernel_rfl) (by kernel_rfl) (by kernel_rfl) (by kernel_rfl) (fun _ _ _ h => h) rfl (fun _ => HS) ?_ ?_
        rotate_left 1
        · intro w; go_simp; try with_reducible rfl
        try simp only [Act.put, List.setIfInBounds_toArray, List.set_cons_zero, List.set_cons_succ, List.getElem_toArray, List.getElem_cons_succ, List.getElem_cons_zero]
        refine wpTill_free 4 (v := ?_) rfl (by kernel_rfl) (by kernel_rfl) (by kernel_rfl) (by kernel_rfl) (fun _ _ _ h => h) rfl (fun _ => HS) ?_ ?_
        rotate_left 1
        · intro w; go_simp; try with_reducible rfl
        try simp only [Act.put, List.setIfInBounds_toArray, List.set_cons_zero, List.set_cons_succ, List.getElem_toArray, List.getElem_cons_succ, List.getElem_cons_zero]
        refine wpTill_one 5 rfl (by kernel_rfl) rfl (fun K hK => ?_)
        go_simp
        refine (rmake_any 0 (st.l.length : Int) _ (by decide) (by decide) (by omega) (by omega)).mono ?_
        rintro e w9 ⟨rfl, hw9⟩
        rw [hw9]
        clear hw9
        refine hK.out _ _ (fun _ => HS) ?_
        clear hK K
        try simp only [Act.put, List.setIfInBounds_toArray, List.set_cons_zero, List.set_cons_succ, List.getElem_toArray, List.getElem_cons_succ, List.getElem_cons_zero]
        refine wpTill_one 6 rfl (by kernel_rfl) rfl (fun K hK => ?_)
        go_simp
        refine hK.out _ _ (Till.gone (by kernel_rfl)) ?_
        clear hK K
        try simp only [Act.put, List.setIfInBounds_toArray, List.set_cons_zero, List.set_cons_succ, List.getElem_toArray, List.getElem_cons_succ, List.getElem_cons_zero]
        refine wpTill_done (by kernel_rfl) ?_ _
        go_wp2_with fail
        go_ret2
        exact ⟨own2, ((x1.trans (x2.mono (by simp))).trans (hdr.mono (by simp))).trans (x3.mono (by simp)), ⟨_, rfl, fun _ => rfl⟩, (g2.keep hdr (by simp)).keep x3 (by simpa using i5), (ha2.keep hdr (by simp)).keep x3 (by simpa using i6), hm3⟩
      · rw [if_neg hroom] at hrr
        subst hrr
        go_enter Try.func91, Try.ntmps91
        go_wp2_with (first
          | (go_at_call 124; refine (rvar_full o1 idh ph most st.l W1 hh (by omega)).mono ?_; rintro e w2 ⟨rfl, n2, hw2⟩; rw [hw2]; clear hw2))
        go_ret2
        exact ⟨o1, x1.drewN _, ⟨_, rfl, fun h => absurd (show (4 : Int) = 0 from h) (by decide)⟩, hh.dr _, ha.dr _, hV.dr _⟩
    · rw [if_neg h0] at hrr
      have hd0 : decide (at_ < 0) = false := decide_eq_false h0
      subst hrr
      have hwl : IntKind.u64.wrap at_ = at_ := by rw [wrap_u64]; omega
      go_enter Try.func91, Try.ntmps91
      go_wp2_with fail
      have kTc := kT
      have hdr := (Ext.refl o1 [] W1).drew
      obtain ⟨w3, hput, hm3, x3, g3⟩ := MV.put (hV.keep hdr (by simp)) (t := 52) Try.underlying52 Try.underlying2 Try.underlying34 n (at_ * 8) (wf_i64_mk hr) (wf_u64_mk (by omega) (by omega)) hlook (by omega)
      have hl2 : look (st.V ++ [(n, at_ * 8)]) n = some (at_ * 8) := look_new hlook
      have hat2 := hm3.at_ (t := 52) Try.underlying52 Try.underlying2 Try.underlying34 (zero_cell _) n (wf_i64_mk hr)
      rw [hl2, Option.getD_some] at hat2
      have kT3 := (kTc.keep hdr (by simp)).keep x3 (by simpa using Ne.symm i3)
      have e2 := kT3.cell 2 rfl
      have HS : W1.drew.cell? ⟨w.heap.size, 2, none⟩ = some (.int .i64 n) := kTc.cell 2 rfl
      clear hlk
      refine wp_calmN ?_
      refine wp_region_till 6 (fun W => W.cell? ⟨w.heap.size, 2, none⟩ = some (.int .i64 n)) (by kernel_rfl) ?_
      refine wpTill_free 0 (v := ?_) rfl (by kernel_rfl) (by kernel_rfl) (by kernel_rfl) (by kernel_rfl) (fun _ _ _ h => h) rfl (fun _ => HS) ?_ ?_
      rotate_left 1
      · intro w; go_simp; try with_reducible rfl
      try simp only [Act.put, List.setIfInBounds_toArray, List.set_cons_zero, List.set_cons_succ, List.getElem_toArray, List.getElem_cons_succ, List.getElem_cons_zero]
      refine wpTill_free 1 (v := ?_) rfl (by kernel_rfl) (by kernel_rfl) (by kernel_rfl) (by kernel_rfl) (fun _ _ _ h => h) rfl (fun _ => HS) ?_ ?_
      rotate_left 1
      · intro w; go_simp; try with_reducible rfl
      try simp only [Act.put, List.setIfInBounds_toArray, List.set_cons_zero, List.set_cons_succ, List.getElem_toArray, List.getElem_cons_succ, List.getElem_cons_zero]
      refine wpTill_take 2 (v := ?_) rfl (by kernel_rfl) (by kernel_rfl) (by kernel_rfl) (by kernel_rfl) (by kernel_rfl) (fun _ _ _ h => h) rfl HS ?_ ?_
      rotate_left 1
      · intro w hSw; go_split_ands; go_simp; try with_reducible rfl
      try simp only [Act.put, List.setIfInBounds_toArray, List.set_cons_zero, List.set_cons_succ, List.getElem_toArray, List.getElem_cons_succ, List.getElem_cons_zero]
      refine wpTill_free 3 (v := ?_) rfl (by kernel_rfl) (by kernel_rfl) (by kernel_rfl) (by kernel_rfl) (fun _ _ _ h => h) rfl (fun _ => HS) ?_ ?_
      rotate_left 1
      · intro w; go_simp; try with_reducible rfl
      try simp only [Act.put, List.setIfInBounds_toArray, List.set_cons_zero, List.set_cons_succ, List.getElem_toArray, List.getElem_cons_succ, List.getElem_cons_zero]
      refine wpTill_free 4 (v := ?_) rfl (by kernel_rfl) (by kernel_rfl) (by kernel_rfl) (by kernel_rfl) (fun _ _ _ h => h) rfl (fun _ => HS) ?_ ?_
      rotate_left 1
      · intro w; go_simp; try with_reducible rfl
      try simp only [Act.put, List.setIfInBounds_toArray, List.set_cons_zero, List.set_cons_succ, List.getElem_toArray, List.getElem_cons_succ, List.getElem_cons_zero]
      refine wpTill_one 5 rfl (by kernel_rfl) rfl (fun K hK => ?_)
      go_simp
      refine (rmake_any 0 at_ _ (by decide) (by decide) (by omega) (by omega)).mono ?_
      rintro e w9 ⟨rfl, hw9⟩
      rw [hw9]
      clear hw9
      refine hK.out _ _ (fun _ => HS) ?_
      clear hK K
      try simp only [Act.put, List.setIfInBounds_toArray, List.set_cons_zero, List.set_cons_succ, List.getElem_toArray, List.getElem_cons_succ, List.getElem_cons_zero]
      refine wpTill_one 6 rfl (by kernel_rfl) rfl (fun K hK => ?_)
      go_simp
      refine hK.out _ _ (Till.gone (by kernel_rfl)) ?_
      clear hK K
      try simp only [Act.put, List.setIfInBounds_toArray, List.set_cons_zero, List.set_cons_succ, List.getElem_toArray, List.getElem_cons_succ, List.getElem_cons_zero]
      refine wpTill_done (by kernel_rfl) ?_ _
      go_wp2_with fail
      go_ret2
      exact ⟨o1, (x1.trans (hdr.mono (by simp))).trans (x3.mono (by simp)), ⟨_, rfl, fun _ => rfl⟩, (hh.keep hdr (by simp)).keep x3 (by simpa using i5), (ha.keep hdr (by simp)).keep x3 (by simpa using i6), hm3⟩

end Go.Proofs.Ytlmcfclonncgbaa
