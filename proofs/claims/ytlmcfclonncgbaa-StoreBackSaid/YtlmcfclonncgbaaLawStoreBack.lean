/- The walk of the law StoreBack: what is laid is told: the term, its variables as they are met; laid twice with the same variables both are one term with shared ones. -/
import Derived.Test.YtlmcfclonncgbaaLawStoreTwo
namespace Go.Proofs.Ytlmcfclonncgbaa
open Go.RowKit
set_option linter.unusedVariables false
set_option linter.unusedSimpArgs false

theorem putR_vlen {t : Tm} {st s : SS} {c : Int} (hm : mayE t = 0) (h : putR 1048576 t st = (s, c, 0)) (hV : st.V = []) : s.V.length ≤ 2000 := by
  rw [putR_eq, if_pos hm] at h
  by_cases e : (putT 1048576 (cl t) (-1) st).2.2 ≠ 0
  · rw [if_pos e] at h
    simp only [Prod.mk.injEq] at h
    exact absurd h.2.2 e
  · rw [if_neg e] at h
    simp only [Prod.mk.injEq] at h
    have z := putT_keys 1048576 (cl t) (-1) st (by simpa using e)
    rw [h.1, hV] at z
    have z2 := congrArg List.length z
    simp only [List.length_map, List.map_nil] at z2
    have z3 := metT_len (cl t) []
    have z4 := (mayE_zero.1 hm).2.2.2
    simp only [List.length_nil] at z3
    omega
section
variable {P : Program} (w : World) {ops : Array Oper} {rest : List Oper} {o : Oper} {a : Act} {Q : Exit → Act → World → Prop}
theorem wpList_MV_len (hw : Region.wanted o (yielded ops a.tmps) = true) (m : Operand) (t : TypeId) (hop : o.op = Op.call { callee := Callee.builtin Builtin.len, args := #[m], argTypes := #[t] })
    (k e : TypeId) (ht : P.underlying t = some (.map k e)) {own : Nat → Nat} {id b : Nat} {q1 q2 : IntKind} {V : List (Int × Int)} (h : MV own id w P q1 q2 k e b V) (hm : a.eval m = .map (some b))
    (hK : wpList P ops Q rest (a.put o.dst (.int .i64 (V.length : Nat))) w) : wpList P ops Q (o :: rest) a w := by
  obtain ⟨D, h1, h2⟩ := h
  exact wpList_map_len_g w hw m t hop k e ht h1 hm _ h2.size hK
end
set_option maxRecDepth 100000 in
set_option maxHeartbeats 1600000 in
theorem storeBack_walk (v0 : Value) (t : Tm) {w : World} (ht : ∃ sl, v0 = valT t sl ∧ TmS own0 w t sl) (_w : World) :
    Calls Try.prog 9 #[v0] w fun e w' => e = .returned (.bool true) ∧ Below w.heap.size w w' := by
  obtain ⟨sl, rfl, hT⟩ := ht
  obtain ⟨A, len, cap, rfl, _⟩ := hT.args
  have et : valT t (.slice A len cap) = .agg #[.int .i64 t.kind, .string t.name, .int .i64 t.int, .int .u64 t.re, .int .u64 t.im, .slice A len cap] := rfl
  rw [et]
  have hmm := @run_makeMap Try.prog
  obtain ⟨W1, hW1⟩ : ∃ W, w.alloc (.cells #[.int .i64 t.kind, .string t.name, .int .i64 t.int, .int .u64 t.re, .int .u64 t.im, .slice A len cap] 25) = W := ⟨_, rfl⟩
  obtain ⟨o1, X1, kT1, x1⟩ := boxW (Ext.refl own0 [1, 2, 3, 4, 8, 9, 10] w) [.int .i64 t.kind, .string t.name, .int .i64 t.int, .int .u64 t.re, .int .u64 t.im, .slice A len cap] 25 0 W1 hW1
  have hT1 := TmS.keep x1 (by decide) t _ hT
  obtain ⟨x2, hL2⟩ := TmL.built o1 W1 [(t, .slice A len cap)] (by intro z hz; simp at hz; subst hz; exact hT1) (by simp [maxLen]) 25 [.int .i64 t.kind, .string t.name, .int .i64 t.int, .int .u64 t.re, .int .u64 t.im, .slice A len cap] rfl
  simp only [List.length_cons, List.length_nil, List.map_cons, List.map_nil] at hL2
  generalize _root_.Go.Proofs.Ytlmcfclonncgbaa.give o1 W1.heap.size 0 = o2 at *
  obtain ⟨w2, hw2⟩ : ∃ W, W1.alloc (.cells #[.int .i64 t.kind, .string t.name, .int .i64 t.int, .int .u64 t.re, .int .u64 t.im, .slice A len cap] 25) = W := ⟨_, rfl⟩
  change Ext o1 o2 _ W1 (W1.alloc (.cells #[.int .i64 t.kind, .string t.name, .int .i64 t.int, .int .u64 t.re, .int .u64 t.im, .slice A len cap] 25)) at x2
  change TmL o2 (W1.alloc (.cells #[.int .i64 t.kind, .string t.name, .int .i64 t.int, .int .u64 t.re, .int .u64 t.im, .slice A len cap] 25)) _ _ _ _ at hL2
  rw [hw2] at x2 hL2
  have kT2 := kT1.keep x2 (by decide)
  have hT2 := TmS.keep x2 (by decide) t _ hT1
  have X2 := X1.trans (x2.mono (by decide))
  have ct1_0 := kT1.cell 0 rfl
  have ct1_1 := kT1.cell 1 rfl
  have ct1_2 := kT1.cell 2 rfl
  have ct1_3 := kT1.cell 3 rfl
  have ct1_4 := kT1.cell 4 rfl
  have ct1_5 := kT1.cell 5 rfl
  have hlight := rlight_any [t] _ _ _ o2 _ hL2
  have HLI := Lib.hid hlight
  clear hlight hL2 hT x1 x2 kT1 hT1 X1
  by_cases hli : lightA [t] 0 4000 = true
  · rw [hli] at HLI
    by_cases hm : mayE t = 0
    · have hm' : (mayE t != 0) = false := by simpa using hm
      have hk := (mayE_zero.1 hm).1
      have hr := tms_ranged t _ hT2 hk
      have hnv : nvF t ≤ 1000000 := by have := nvF_nodes t hk; have := (mayE_zero.1 hm).2.2.2; omega
      obtain ⟨s1, s2, s3, c1, c2, c3, n1, n, P1, PP, hp1, hp2, hp3, hg1, hg2, hg3, hpl, hpm, hvl, b1, b2, b3, u1, u2, u3⟩ := back_law t hm hr
      have hv2 : s2.V.length < 900000 := by have := putR_vlen hm hp2 rfl; omega
      replace hpm : PP.length ≤ 998000 := by omega
      have hbl : (((s3.V.length : Nat) : Int) != (((varsF t []).length : Nat) : Int)) = false := by rw [hvl]; simp
      have hbe : ((((numV PP 0).length : Nat) : Int) == ((s3.V.length : Nat) : Int)) = true := by rw [numV_length, hpl]; simp
      obtain ⟨CT, hCT⟩ : ∃ C, canon (cl t) = C := ⟨_, rfl⟩
      have hcn := canon_named (t := t) hk
      have hss : sameB (un CT) (un CT) = true := by rw [← hCT]; exact same_self (good_canon (mayE_zero.1 hm).2)
      rw [hCT] at hg1 hg2 hg3 hcn
      have HL := Lib.hid (And.intro hp1 (And.intro hp2 (And.intro hp3 (And.intro hg1 (And.intro hg2 (And.intro hg3 (And.intro hv2 (And.intro hvl (And.intro hpl (And.intro u1 (And.intro u2 (And.intro u3 (And.intro b1.l (And.intro b1.few (And.intro b1.names (And.intro b3.l (And.intro b3.few (And.intro b3.names hpm))))))))))))))))))
      have HM := Lib.hid (And.intro hm (And.intro hnv (And.intro hcn (And.intro hss hm))))
      clear hm hk hr hnv hp1 hp2 hp3 hg1 hg2 hg3 hpl hpm hvl b1 b2 b3 u1 u2 u3 hv2 hCT hcn hss hli
      go_enter Try.func9, Try.ntmps9
      go_wp2_with (first
        | (go_at_call 42; have hc := sget_new own8 1 2 3 4 (by constructor <;> decide) w8 p1 pt 1048576 c1 s1.l s1.L h8 t8 HL.out.2.2.2.2.2.2.2.2.2.1.1 HL.out.2.2.2.2.2.2.2.2.2.1.2 HL.out.2.2.2.2.2.2.2.2.2.2.2.2.1 HL.out.2.2.2.2.2.2.2.2.2.2.2.2.2.1 HL.out.2.2.2.2.2.2.2.2.2.2.2.2.2.2.1; rw [HL.out.2.2.2.1] at hc; refine Calls.mono hc ?_; rintro e9 w9 ⟨own9, x9, hE⟩; unfold GotEnd at hE; rw [if_pos rfl] at hE; obtain ⟨AU, lU, cU, hee, hG9⟩ := hE; obtain rfl : e9 = .returned (.tuple #[.agg #[.int .i64 (un CT).kind, .string (un CT).name, .int .i64 (un CT).int, .int .u64 (un CT).re, .int .u64 (un CT).im, .slice AU lU cU], .int .i64 0]) := hee; have kT9 := kT8.keep x9 (by decide); have hT9 := TmS.keep x9 (by decide) t _ hT8; have X9 := X8.trans (x9.mono (by decide)); have h9 := h8.keep x9 (by decide); have t9 := t8.keep x9 (by decide) (by decide); have ct9_0 := kT9.cell 0 rfl; have ct9_1 := kT9.cell 1 rfl; have ct9_2 := kT9.cell 2 rfl; have ct9_3 := kT9.cell 3 rfl; have ct9_4 := kT9.cell 4 rfl; have ct9_5 := kT9.cell 5 rfl; obtain ⟨w10, hW10⟩ : ∃ W, w9.alloc (.cells #[.int .i64 (un CT).kind, .string (un CT).name, .int .i64 (un CT).int, .int .u64 (un CT).re, .int .u64 (un CT).im, .slice AU lU cU] 25) = W := ⟨_, rfl⟩; obtain ⟨own10, y10, kU10, x10⟩ := boxW (Ext.refl own9 [] w9) [.int .i64 (un CT).kind, .string (un CT).name, .int .i64 (un CT).int, .int .u64 (un CT).re, .int .u64 (un CT).im, .slice AU lU cU] 25 0 w10 hW10; have hU10 := TmS.keep x10 (by decide) _ _ hG9; have kT10 := kT9.keep x10 (by decide); have hT10 := TmS.keep x10 (by decide) t _ hT9; have X10 := X9.trans (x10.mono (by decide)); have h10 := h9.keep x10 (by decide); have t10 := t9.keep x10 (by decide) (by decide); have ct10_0 := kT10.cell 0 rfl; have ct10_1 := kT10.cell 1 rfl; have ct10_2 := kT10.cell 2 rfl; have ct10_3 := kT10.cell 3 rfl; have ct10_4 := kT10.cell 4 rfl; have ct10_5 := kT10.cell 5 rfl; have cu10_0 := kU10.cell 0 rfl; have cu10_1 := kU10.cell 1 rfl; have cu10_2 := kU10.cell 2 rfl; have cu10_3 := kU10.cell 3 rfl; have cu10_4 := kU10.cell 4 rfl; have cu10_5 := kU10.cell 5 rfl)
        | (go_at_call 31; refine (len_any own7 1 p1 _ s1.l _ h7).mono ?_; rintro e8 w8 ⟨rfl, n8, hw8⟩; subst hw8; obtain ⟨w8, hw8⟩ : ∃ W, w7.drewN n8 = W := ⟨_, rfl⟩; have x8 := (Ext.refl own7 [] w7).drewN n8; rw [hw8] at x8 ⊢; obtain ⟨own8, ho8⟩ : ∃ o, own7 = o := ⟨_, rfl⟩; replace x8 : Ext own7 own8 [] w7 w8 := (by rw [← ho8]; exact x8); have kT8 := kT7.keep x8 (by decide); have hT8 := TmS.keep x8 (by decide) t _ hT7; have X8 := X7.trans (x8.mono (by decide)); have h8 := h7.keep x8 (by decide); have t8 := t7.keep x8 (by decide) (by decide); have ct8_0 := kT8.cell 0 rfl; have ct8_1 := kT8.cell 1 rfl; have ct8_2 := kT8.cell 2 rfl; have ct8_3 := kT8.cell 3 rfl; have ct8_4 := kT8.cell 4 rfl; have ct8_5 := kT8.cell 5 rfl)
        | (go_at_call 28; have hput := put_any own6 1 2 3 4 (by constructor <;> decide) w6 p1 pt none 1048576 t (.slice A len cap) ⟨[], names0, []⟩ hT6 h6 t6 (Or.inl ⟨rfl, rfl⟩) (by decide); rw [et, HL.out.1] at hput; refine Calls.mono hput ?_; rintro e7 w7 ⟨own7, x7, (rfl : e7 = .returned (.tuple #[.int .u64 c1, .int .i64 0])), h7, t7, _⟩; replace h7 : HP own7 1 w7 p1 1048576 s1.l := h7; replace t7 : TabP own7 2 3 w7 pt s1.L := t7; have kT7 := kT6.keep x7 (by decide); have hT7 := TmS.keep x7 (by decide) t _ hT6; have X7 := X6.trans (x7.mono (by decide)); have ct7_0 := kT7.cell 0 rfl; have ct7_1 := kT7.cell 1 rfl; have ct7_2 := kT7.cell 2 rfl; have ct7_3 := kT7.cell 3 rfl; have ct7_4 := kT7.cell 4 rfl; have ct7_5 := kT7.cell 5 rfl)
        | (go_at_call 27; refine (anew_any own5 2 3 _ (by decide)).mono ?_; rintro e6 w6 ⟨own6, pt, x6, rfl, hle6, hlt6, t6⟩; have h6 : HP own6 1 w6 p1 1048576 [] := h5.keep x6 (by decide); have kT6 := kT5.keep x6 (by decide); have hT6 := TmS.keep x6 (by decide) t _ hT5; have X6 := X5.trans (x6.mono (by decide)); have ct6_0 := kT6.cell 0 rfl; have ct6_1 := kT6.cell 1 rfl; have ct6_2 := kT6.cell 2 rfl; have ct6_3 := kT6.cell 3 rfl; have ct6_4 := kT6.cell 4 rfl; have ct6_5 := kT6.cell 5 rfl)
        | (go_at_call 26; refine (new_any own4 1 1048576 _).mono ?_; rintro e5 w5 ⟨own5, x5, rfl, hlt5, h5⟩; obtain ⟨p1, hp1⟩ : ∃ p, w4.heap.size = p := ⟨_, rfl⟩; rw [hp1] at h5 ⊢; have kT5 := kT4.keep x5 (by decide); have hT5 := TmS.keep x5 (by decide) t _ hT4; have X5 := X4.trans (x5.mono (by decide)); have ct5_0 := kT5.cell 0 rfl; have ct5_1 := kT5.cell 1 rfl; have ct5_2 := kT5.cell 2 rfl; have ct5_3 := kT5.cell 3 rfl; have ct5_4 := kT5.cell 4 rfl; have ct5_5 := kT5.cell 5 rfl)
        | (go_at_call 24; have hc := rmay_any t _ own3 _ hT3; rw [et] at hc; refine hc.mono ?_; rintro e4 w4 ⟨own4, x4, rfl⟩; have kT4 := kT3.keep x4 (by decide); have hT4 := TmS.keep x4 (by decide) t _ hT3; have X4 := X3.trans (x4.mono (by decide)); have ct4_0 := kT4.cell 0 rfl; have ct4_1 := kT4.cell 1 rfl; have ct4_2 := kT4.cell 2 rfl; have ct4_3 := kT4.cell 3 rfl; have ct4_4 := kT4.cell 4 rfl; have ct4_5 := kT4.cell 5 rfl)
        | (go_at_call 23; refine Calls.mono HLI.out ?_; rintro e w3 ⟨own3, x3, rfl⟩; have kT3 := kT2.keep x3 (by decide); have hT3 := TmS.keep x3 (by decide) t _ hT2; have X3 := X2.trans (x3.mono (by decide)); have ct3_0 := kT3.cell 0 rfl; have ct3_1 := kT3.cell 1 rfl; have ct3_2 := kT3.cell 2 rfl; have ct3_3 := kT3.cell 3 rfl; have ct3_4 := kT3.cell 4 rfl; have ct3_5 := kT3.cell 5 rfl))
      have hdr := (Ext.refl own10 [] w10).drew
      replace kT10 := kT10.keep hdr (by decide)
      replace kU10 := kU10.keep hdr (by decide)
      replace hT10 := TmS.keep hdr (by decide) t _ hT10
      replace hU10 := TmS.keep hdr (by decide) _ _ hU10
      replace X10 := X10.trans (hdr.mono (by decide))
      replace h10 := h10.keep hdr (by decide)
      replace t10 := t10.keep hdr (by decide) (by decide)
      have HS : w10.drew.cell? ⟨w9.heap.size, 0, none⟩ = some (.int .i64 (un CT).kind) ∧ w10.drew.cell? ⟨w9.heap.size, 1, none⟩ = some (.string (un CT).name) ∧ w10.drew.cell? ⟨w9.heap.size, 2, none⟩ = some (.int .i64 (un CT).int) ∧ w10.drew.cell? ⟨w9.heap.size, 3, none⟩ = some (.int .u64 (un CT).re) ∧ w10.drew.cell? ⟨w9.heap.size, 4, none⟩ = some (.int .u64 (un CT).im) ∧ w10.drew.cell? ⟨w9.heap.size, 5, none⟩ = some (.slice AU lU cU) ∧ w10.drew.cell? ⟨w.heap.size, 0, none⟩ = some (.int .i64 t.kind) ∧ w10.drew.cell? ⟨w.heap.size, 1, none⟩ = some (.string t.name) ∧ w10.drew.cell? ⟨w.heap.size, 2, none⟩ = some (.int .i64 t.int) ∧ w10.drew.cell? ⟨w.heap.size, 3, none⟩ = some (.int .u64 t.re) ∧ w10.drew.cell? ⟨w.heap.size, 4, none⟩ = some (.int .u64 t.im) ∧ w10.drew.cell? ⟨w.heap.size, 5, none⟩ = some (.slice A len cap) := ⟨kU10.cell 0 rfl, kU10.cell 1 rfl, kU10.cell 2 rfl, kU10.cell 3 rfl, kU10.cell 4 rfl, kU10.cell 5 rfl, kT10.cell 0 rfl, kT10.cell 1 rfl, kT10.cell 2 rfl, kT10.cell 3 rfl, kT10.cell 4 rfl, kT10.cell 5 rfl⟩
      refine wp_calmN ?_
      refine wp_region_till 6 (fun W => W.cell? ⟨w9.heap.size, 0, none⟩ = some (.int .i64 (un CT).kind) ∧ W.cell? ⟨w9.heap.size, 1, none⟩ = some (.string (un CT).name) ∧ W.cell? ⟨w9.heap.size, 2, none⟩ = some (.int .i64 (un CT).int) ∧ W.cell? ⟨w9.heap.size, 3, none⟩ = some (.int .u64 (un CT).re) ∧ W.cell? ⟨w9.heap.size, 4, none⟩ = some (.int .u64 (un CT).im) ∧ W.cell? ⟨w9.heap.size, 5, none⟩ = some (.slice AU lU cU) ∧ W.cell? ⟨w.heap.size, 0, none⟩ = some (.int .i64 t.kind) ∧ W.cell? ⟨w.heap.size, 1, none⟩ = some (.string t.name) ∧ W.cell? ⟨w.heap.size, 2, none⟩ = some (.int .i64 t.int) ∧ W.cell? ⟨w.heap.size, 3, none⟩ = some (.int .u64 t.re) ∧ W.cell? ⟨w.heap.size, 4, none⟩ = some (.int .u64 t.im) ∧ W.cell? ⟨w.heap.size, 5, none⟩ = some (.slice A len cap)) (by kernel_rfl) ?_
      refine wpTill_free 0 (v := ?_) rfl (by kernel_rfl) (by kernel_rfl) (by kernel_rfl) (by kernel_rfl) (fun _ _ _ h => h) rfl (fun _ => HS) ?_ ?_
      rotate_left 1
      · intro w; go_simp; try with_reducible rfl
      try simp only [Act.put, List.setIfInBounds_toArray, List.set_cons_zero, List.set_cons_succ, List.getElem_toArray, List.getElem_cons_succ, List.getElem_cons_zero]
      refine wpTill_free 1 (v := ?_) rfl (by kernel_rfl) (by kernel_rfl) (by kernel_rfl) (by kernel_rfl) (fun _ _ _ h => h) rfl (fun _ => HS) ?_ ?_
      rotate_left 1
      · intro w; go_simp; try with_reducible rfl
      try simp only [Act.put, List.setIfInBounds_toArray, List.set_cons_zero, List.set_cons_succ, List.getElem_toArray, List.getElem_cons_succ, List.getElem_cons_zero]
      refine wpTill_free 2 (v := ?_) rfl (by kernel_rfl) (by kernel_rfl) (by kernel_rfl) (by kernel_rfl) (fun _ _ _ h => h) rfl (fun _ => HS) ?_ ?_
      rotate_left 1
      · intro w; go_simp; try with_reducible rfl
      try simp only [Act.put, List.setIfInBounds_toArray, List.set_cons_zero, List.set_cons_succ, List.getElem_toArray, List.getElem_cons_succ, List.getElem_cons_zero]
      refine wpTill_take 3 (v := ?_) rfl (by kernel_rfl) (by kernel_rfl) (by kernel_rfl) (by kernel_rfl) (by kernel_rfl) (fun _ _ _ h => h) rfl HS ?_ ?_
      rotate_left 1
      · intro w hSw; go_split_ands; go_simp; try with_reducible rfl
      try simp only [Act.put, List.setIfInBounds_toArray, List.set_cons_zero, List.set_cons_succ, List.getElem_toArray, List.getElem_cons_succ, List.getElem_cons_zero]
      refine wpTill_one 4 rfl (by kernel_rfl) rfl (fun K hK => ?_)
      go_simp
      refine hK.out _ _ (fun _ => HS) ?_
      clear hK K
      try simp only [Act.put, List.setIfInBounds_toArray, List.set_cons_zero, List.set_cons_succ, List.getElem_toArray, List.getElem_cons_succ, List.getElem_cons_zero]
      refine wpTill_one 5 rfl (by kernel_rfl) rfl (fun K hK => ?_)
      go_simp
      have hc := rename_any t _ own10 _ hT10 HM.out.1 HM.out.2.1
      rw [et, HM.out.2.2.1] at hc
      refine hc.mono ?_
      rintro e11 w11 ⟨own11, x11, A11, l11, cp11, (rfl : e11 = .returned (.agg #[.int .i64 (un CT).kind, .string (un CT).name, .int .i64 (un CT).int, .int .u64 (un CT).re, .int .u64 (un CT).im, .slice A11 l11 cp11])), hR11⟩
      have kT11 := kT10.keep x11 (by decide)
      have hT11 := TmS.keep x11 (by decide) t _ hT10
      have X11 := X10.trans (x11.mono (by decide))
      have kU11 := kU10.keep x11 (by decide)
      have hU11 := TmS.keep x11 (by decide) _ _ hU10
      have h11 := h10.keep x11 (by decide)
      have t11 := t10.keep x11 (by decide) (by decide)
      refine hK.out _ _ (fun _ => ⟨kU11.cell 0 rfl, kU11.cell 1 rfl, kU11.cell 2 rfl, kU11.cell 3 rfl, kU11.cell 4 rfl, kU11.cell 5 rfl, kT11.cell 0 rfl, kT11.cell 1 rfl, kT11.cell 2 rfl, kT11.cell 3 rfl, kT11.cell 4 rfl, kT11.cell 5 rfl⟩) ?_
      clear hK K
      try simp only [Act.put, List.setIfInBounds_toArray, List.set_cons_zero, List.set_cons_succ, List.getElem_toArray, List.getElem_cons_succ, List.getElem_cons_zero]
      refine wpTill_one 6 rfl (by kernel_rfl) rfl (fun K hK => ?_)
      go_simp
      have hc := same_any (un CT) (.slice AU lU cU) (un CT) (.slice A11 l11 cp11) own11 _ hU11 hR11
      rw [HM.out.2.2.2.1] at hc
      refine Calls.mono hc ?_
      rintro e12 w12 ⟨own12, x12, rfl⟩
      have kT12 := kT11.keep x12 (by decide)
      have hT12 := TmS.keep x12 (by decide) t _ hT11
      have X12 := X11.trans (x12.mono (by decide))
      have h12 := h11.keep x12 (by decide)
      have t12 := t11.keep x12 (by decide) (by decide)
      refine hK.out _ _ (Till.gone (by kernel_rfl)) ?_
      clear hK K
      try simp only [Act.put, List.setIfInBounds_toArray, List.set_cons_zero, List.set_cons_succ, List.getElem_toArray, List.getElem_cons_succ, List.getElem_cons_zero]
      refine wpTill_free 7 (v := ?_) rfl (by kernel_rfl) (by kernel_rfl) (by kernel_rfl) (by kernel_rfl) (fun _ _ _ h => h) rfl (Till.gone (by kernel_rfl)) ?_ ?_
      rotate_left 1
      · intro w; go_simp; try with_reducible rfl
      try simp only [Act.put, List.setIfInBounds_toArray, List.set_cons_zero, List.set_cons_succ, List.getElem_toArray, List.getElem_cons_succ, List.getElem_cons_zero]
      refine wpTill_free 8 (v := ?_) rfl (by kernel_rfl) (by kernel_rfl) (by kernel_rfl) (by kernel_rfl) (fun _ _ _ h => h) rfl (Till.gone (by kernel_rfl)) ?_ ?_
      rotate_left 1
      · intro w; go_simp; try with_reducible rfl
      try simp only [Act.put, List.setIfInBounds_toArray, List.set_cons_zero, List.set_cons_succ, List.getElem_toArray, List.getElem_cons_succ, List.getElem_cons_zero]
      refine wpTill_free 9 (v := ?_) rfl (by kernel_rfl) (by kernel_rfl) (by kernel_rfl) (by kernel_rfl) (fun _ _ _ h => h) rfl (Till.gone (by kernel_rfl)) ?_ ?_
      rotate_left 1
      · intro w; go_simp; try with_reducible rfl
      try simp only [Act.put, List.setIfInBounds_toArray, List.set_cons_zero, List.set_cons_succ, List.getElem_toArray, List.getElem_cons_succ, List.getElem_cons_zero]
      refine wpTill_free 10 (v := ?_) rfl (by kernel_rfl) (by kernel_rfl) (by kernel_rfl) (by kernel_rfl) (fun _ _ _ h => h) rfl (Till.gone (by kernel_rfl)) ?_ ?_
      rotate_left 1
      · intro w; go_simp; try with_reducible rfl
      try simp only [Act.put, List.setIfInBounds_toArray, List.set_cons_zero, List.set_cons_succ, List.getElem_toArray, List.getElem_cons_succ, List.getElem_cons_zero]
      refine wpTill_free 12 (v := ?_) rfl (by kernel_rfl) (by kernel_rfl) (by kernel_rfl) (by kernel_rfl) (fun _ _ _ h => h) rfl (Till.gone (by kernel_rfl)) ?_ ?_
      rotate_left 1
      · intro w; go_simp; try with_reducible rfl
      try simp only [Act.put, List.setIfInBounds_toArray, List.set_cons_zero, List.set_cons_succ, List.getElem_toArray, List.getElem_cons_succ, List.getElem_cons_zero]
      refine wpTill_one 11 rfl (by kernel_rfl) rfl (fun K hK => ?_)
      go_simp
      refine (len_any own12 1 p1 _ s1.l _ h12).mono ?_
      rintro e13 w13 ⟨rfl, n13, hw13⟩
      subst hw13
      have x13 := (Ext.refl own12 [] w12).drewN n13
      have kT13 := kT12.keep x13 (by decide)
      have hT13 := TmS.keep x13 (by decide) t _ hT12
      have X13 := X12.trans (x13.mono (by decide))
      have h13 := h12.keep x13 (by decide)
      have t13 := t12.keep x13 (by decide) (by decide)
      refine hK.out _ _ (Till.gone (by kernel_rfl)) ?_
      clear hK K
      try simp only [Act.put, List.setIfInBounds_toArray, List.set_cons_zero, List.set_cons_succ, List.getElem_toArray, List.getElem_cons_succ, List.getElem_cons_zero]
      refine wpTill_free 13 (v := ?_) rfl (by kernel_rfl) (by kernel_rfl) (by kernel_rfl) (by kernel_rfl) (fun _ _ _ h => h) rfl (Till.gone (by kernel_rfl)) ?_ ?_
      rotate_left 1
      · intro w; go_simp; try with_reducible rfl
      try simp only [Act.put, List.setIfInBounds_toArray, List.set_cons_zero, List.set_cons_succ, List.getElem_toArray, List.getElem_cons_succ, List.getElem_cons_zero]
      refine wpTill_free 14 (v := ?_) rfl (by kernel_rfl) (by kernel_rfl) (by kernel_rfl) (by kernel_rfl) (fun _ _ _ h => h) rfl (Till.gone (by kernel_rfl)) ?_ ?_
      rotate_left 1
      · intro w; go_simp; try with_reducible rfl
      try simp only [Act.put, List.setIfInBounds_toArray, List.set_cons_zero, List.set_cons_succ, List.getElem_toArray, List.getElem_cons_succ, List.getElem_cons_zero]
      refine wpTill_free 15 (v := ?_) rfl (by kernel_rfl) (by kernel_rfl) (by kernel_rfl) (by kernel_rfl) (fun _ _ _ h => h) rfl (Till.gone (by kernel_rfl)) ?_ ?_
      rotate_left 1
      · intro w; go_simp; try with_reducible rfl
      try simp only [Act.put, List.setIfInBounds_toArray, List.set_cons_zero, List.set_cons_succ, List.getElem_toArray, List.getElem_cons_succ, List.getElem_cons_zero]
      refine wpTill_free 16 (v := ?_) rfl (by kernel_rfl) (by kernel_rfl) (by kernel_rfl) (by kernel_rfl) (fun _ _ _ h => h) rfl (Till.gone (by kernel_rfl)) ?_ ?_
      rotate_left 1
      · intro w; go_simp; try with_reducible rfl
      try simp only [Act.put, List.setIfInBounds_toArray, List.set_cons_zero, List.set_cons_succ, List.getElem_toArray, List.getElem_cons_succ, List.getElem_cons_zero]
      refine wpTill_free 17 (v := ?_) rfl (by kernel_rfl) (by kernel_rfl) (by kernel_rfl) (by kernel_rfl) (fun _ _ _ h => h) rfl (Till.gone (by kernel_rfl)) ?_ ?_
      rotate_left 1
      · intro w; go_simp; try with_reducible rfl
      try simp only [Act.put, List.setIfInBounds_toArray, List.set_cons_zero, List.set_cons_succ, List.getElem_toArray, List.getElem_cons_succ, List.getElem_cons_zero]
      refine wpTill_free 18 (v := ?_) rfl (by kernel_rfl) (by kernel_rfl) (by kernel_rfl) (by kernel_rfl) (fun _ _ _ h => h) rfl (Till.gone (by kernel_rfl)) ?_ ?_
      rotate_left 1
      · intro w; go_simp; try with_reducible rfl
      try simp only [Act.put, List.setIfInBounds_toArray, List.set_cons_zero, List.set_cons_succ, List.getElem_toArray, List.getElem_cons_succ, List.getElem_cons_zero]
      refine wpTill_one 19 rfl (by kernel_rfl) rfl (fun K hK => ?_)
      go_simp
      have hc := sound_any own12 1 2 3 4 (by constructor <;> decide) (w12.drewN n13) p1 pt 1048576 c1 s1.l s1.L h13 t13 HL.out.2.2.2.2.2.2.2.2.2.1.1 HL.out.2.2.2.2.2.2.2.2.2.1.2 HL.out.2.2.2.2.2.2.2.2.2.2.2.2.1 HL.out.2.2.2.2.2.2.2.2.2.2.2.2.2.1 HL.out.2.2.2.2.2.2.2.2.2.2.2.2.2.2.1
      rw [HL.out.2.2.2.1] at hc
      refine Calls.mono hc ?_
      rintro e14 w14 ⟨own14, x14, rfl⟩
      have kT14 := kT13.keep x14 (by decide)
      have hT14 := TmS.keep x14 (by decide) t _ hT13
      have X14 := X13.trans (x14.mono (by decide))
      have h14 := h13.keep x14 (by decide)
      have t14 := t13.keep x14 (by decide) (by decide)
      refine hK.out _ _ (Till.gone (by kernel_rfl)) ?_
      clear hK K
      try simp only [Act.put, List.setIfInBounds_toArray, List.set_cons_zero, List.set_cons_succ, List.getElem_toArray, List.getElem_cons_succ, List.getElem_cons_zero]
      refine wpTill_free 20 (v := ?_) rfl (by kernel_rfl) (by kernel_rfl) (by kernel_rfl) (by kernel_rfl) (fun _ _ _ h => h) rfl (Till.gone (by kernel_rfl)) ?_ ?_
      rotate_left 1
      · intro w; go_simp; try with_reducible rfl
      try simp only [Act.put, List.setIfInBounds_toArray, List.set_cons_zero, List.set_cons_succ, List.getElem_toArray, List.getElem_cons_succ, List.getElem_cons_zero]
      refine wpTill_free 21 (v := ?_) rfl (by kernel_rfl) (by kernel_rfl) (by kernel_rfl) (by kernel_rfl) (fun _ _ _ h => h) rfl (Till.gone (by kernel_rfl)) ?_ ?_
      rotate_left 1
      · intro w; go_simp; try with_reducible rfl
      try simp only [Act.put, List.setIfInBounds_toArray, List.set_cons_zero, List.set_cons_succ, List.getElem_toArray, List.getElem_cons_succ, List.getElem_cons_zero]
      refine wpTill_done (by kernel_rfl) ?_ _
      obtain ⟨x15, hV15⟩ := MV.new own14 8 w14 Try.prog .i64 .u64 2 34
      obtain ⟨w15, hW15⟩ : ∃ W, w14.alloc (.map #[] 0) = W := ⟨_, rfl⟩
      rw [hW15] at x15 hV15
      obtain ⟨own15, ho15⟩ : ∃ o, give own14 w14.heap.size 8 = o := ⟨_, rfl⟩
      rw [ho15] at x15 hV15
      have kT15 := kT14.keep x15 (by decide)
      have hT15 := TmS.keep x15 (by decide) t _ hT14
      have X15 := X14.trans (x15.mono (by decide))
      have h15 := h14.keep x15 (by decide)
      have t15 := t14.keep x15 (by decide) (by decide)
      have ct15_0 := kT15.cell 0 rfl
      have ct15_1 := kT15.cell 1 rfl
      have ct15_2 := kT15.cell 2 rfl
      have ct15_3 := kT15.cell 3 rfl
      have ct15_4 := kT15.cell 4 rfl
      have ct15_5 := kT15.cell 5 rfl
      clear HS hW10 ho15
      go_wp2_with (first
        | (go_at_call 51; have hc := same_any (un CT) (.slice AX lX cX) (un CT) (.slice AY lY cY) own23 _ hX23 hY23; rw [HM.out.2.2.2.1] at hc; refine Calls.mono hc ?_; rintro e24 w24 ⟨own24, x24, rfl⟩; have kT24 := kT23.keep x24 (by decide); have hT24 := TmS.keep x24 (by decide) t _ hT23; have X24 := X23.trans (x24.mono (by decide)); have hV24 := hV23.keep x24 (by decide); have hM24 := hM23.keep x24 (by decide); have ct24_0 := kT24.cell 0 rfl; have ct24_1 := kT24.cell 1 rfl; have ct24_2 := kT24.cell 2 rfl; have ct24_3 := kT24.cell 3 rfl; have ct24_4 := kT24.cell 4 rfl; have ct24_5 := kT24.cell 5 rfl)
        | (go_at_call 42; have hc := sget_map own21 1 2 3 9 (by constructor <;> decide) w21 p1 pt w18.heap.size 1048576 c3 s3.l PP s3.L h21 t21 hM21 HL.out.2.2.2.2.2.2.2.2.2.2.2.2.2.2.2.2.2.2 HL.out.2.2.2.2.2.2.2.2.2.2.2.1.1 HL.out.2.2.2.2.2.2.2.2.2.2.2.1.2 HL.out.2.2.2.2.2.2.2.2.2.2.2.2.2.2.2.1 HL.out.2.2.2.2.2.2.2.2.2.2.2.2.2.2.2.2.1 HL.out.2.2.2.2.2.2.2.2.2.2.2.2.2.2.2.2.2.1; rw [HL.out.2.2.2.2.2.1] at hc; refine Calls.mono hc ?_; rintro e22 w22 ⟨own22, x22, hE, hM22⟩; unfold GotEnd at hE; rw [if_pos rfl] at hE; replace hM22 : RM own22 9 w22 w18.heap.size (numV PP 0) := hM22; obtain ⟨AY, lY, cY, hee, hG22⟩ := hE; obtain rfl : e22 = .returned (.tuple #[.agg #[.int .i64 (un CT).kind, .string (un CT).name, .int .i64 (un CT).int, .int .u64 (un CT).re, .int .u64 (un CT).im, .slice AY lY cY], .int .i64 0]) := hee; have kT22 := kT21.keep x22 (by decide); have hT22 := TmS.keep x22 (by decide) t _ hT21; have X22 := X21.trans (x22.mono (by decide)); have kX22 := kX21.keep x22 (by decide); have hX22 := TmS.keep x22 (by decide) _ _ hX21; have hV22 := hV21.keep x22 (by decide); have h22 := h21.keep x22 (by decide); have t22 := t21.keep x22 (by decide) (by decide); have ct22_0 := kT22.cell 0 rfl; have ct22_1 := kT22.cell 1 rfl; have ct22_2 := kT22.cell 2 rfl; have ct22_3 := kT22.cell 3 rfl; have ct22_4 := kT22.cell 4 rfl; have ct22_5 := kT22.cell 5 rfl; have cx22_0 := kX22.cell 0 rfl; have cx22_1 := kX22.cell 1 rfl; have cx22_2 := kX22.cell 2 rfl; have cx22_3 := kX22.cell 3 rfl; have cx22_4 := kX22.cell 4 rfl; have cx22_5 := kX22.cell 5 rfl; obtain ⟨w23, hW23⟩ : ∃ W, w22.alloc (.cells #[.int .i64 (un CT).kind, .string (un CT).name, .int .i64 (un CT).int, .int .u64 (un CT).re, .int .u64 (un CT).im, .slice AY lY cY] 25) = W := ⟨_, rfl⟩; obtain ⟨own23, y23, kY23, x23⟩ := boxW (Ext.refl own22 [] w22) [.int .i64 (un CT).kind, .string (un CT).name, .int .i64 (un CT).int, .int .u64 (un CT).re, .int .u64 (un CT).im, .slice AY lY cY] 25 0 w23 hW23; have hY23 := TmS.keep x23 (by decide) _ _ hG22; have kT23 := kT22.keep x23 (by decide); have hT23 := TmS.keep x23 (by decide) t _ hT22; have X23 := X22.trans (x23.mono (by decide)); have kX23 := kX22.keep x23 (by decide); have hX23 := TmS.keep x23 (by decide) _ _ hX22; have hV23 := hV22.keep x23 (by decide); have hM23 := hM22.keep x23 (by decide); have h23 := h22.keep x23 (by decide); have t23 := t22.keep x23 (by decide) (by decide); have ct23_0 := kT23.cell 0 rfl; have ct23_1 := kT23.cell 1 rfl; have ct23_2 := kT23.cell 2 rfl; have ct23_3 := kT23.cell 3 rfl; have ct23_4 := kT23.cell 4 rfl; have ct23_5 := kT23.cell 5 rfl; have cx23_0 := kX23.cell 0 rfl; have cx23_1 := kX23.cell 1 rfl; have cx23_2 := kX23.cell 2 rfl; have cx23_3 := kX23.cell 3 rfl; have cx23_4 := kX23.cell 4 rfl; have cx23_5 := kX23.cell 5 rfl; have cy23_0 := kY23.cell 0 rfl; have cy23_1 := kY23.cell 1 rfl; have cy23_2 := kY23.cell 2 rfl; have cy23_3 := kY23.cell 3 rfl; have cy23_4 := kY23.cell 4 rfl; have cy23_5 := kY23.cell 5 rfl)
        | (go_at_call 42; have hc := sget_map own19 1 2 3 9 (by constructor <;> decide) w19 p1 pt w18.heap.size 1048576 c2 s3.l [] s3.L h19 t19 hM19 (by decide) HL.out.2.2.2.2.2.2.2.2.2.2.1.1 HL.out.2.2.2.2.2.2.2.2.2.2.1.2 HL.out.2.2.2.2.2.2.2.2.2.2.2.2.2.2.2.1 HL.out.2.2.2.2.2.2.2.2.2.2.2.2.2.2.2.2.1 HL.out.2.2.2.2.2.2.2.2.2.2.2.2.2.2.2.2.2.1; rw [HL.out.2.2.2.2.1] at hc; refine Calls.mono hc ?_; rintro e20 w20 ⟨own20, x20, hE, hM20⟩; unfold GotEnd at hE; rw [if_pos rfl] at hE; replace hM20 : RM own20 9 w20 w18.heap.size (numV PP 0) := hM20; obtain ⟨AX, lX, cX, hee, hG20⟩ := hE; obtain rfl : e20 = .returned (.tuple #[.agg #[.int .i64 (un CT).kind, .string (un CT).name, .int .i64 (un CT).int, .int .u64 (un CT).re, .int .u64 (un CT).im, .slice AX lX cX], .int .i64 0]) := hee; have kT20 := kT19.keep x20 (by decide); have hT20 := TmS.keep x20 (by decide) t _ hT19; have X20 := X19.trans (x20.mono (by decide)); have hV20 := hV19.keep x20 (by decide); have h20 := h19.keep x20 (by decide); have t20 := t19.keep x20 (by decide) (by decide); have ct20_0 := kT20.cell 0 rfl; have ct20_1 := kT20.cell 1 rfl; have ct20_2 := kT20.cell 2 rfl; have ct20_3 := kT20.cell 3 rfl; have ct20_4 := kT20.cell 4 rfl; have ct20_5 := kT20.cell 5 rfl; obtain ⟨w21, hW21⟩ : ∃ W, w20.alloc (.cells #[.int .i64 (un CT).kind, .string (un CT).name, .int .i64 (un CT).int, .int .u64 (un CT).re, .int .u64 (un CT).im, .slice AX lX cX] 25) = W := ⟨_, rfl⟩; obtain ⟨own21, y21, kX21, x21⟩ := boxW (Ext.refl own20 [] w20) [.int .i64 (un CT).kind, .string (un CT).name, .int .i64 (un CT).int, .int .u64 (un CT).re, .int .u64 (un CT).im, .slice AX lX cX] 25 0 w21 hW21; have hX21 := TmS.keep x21 (by decide) _ _ hG20; have kT21 := kT20.keep x21 (by decide); have hT21 := TmS.keep x21 (by decide) t _ hT20; have X21 := X20.trans (x21.mono (by decide)); have hV21 := hV20.keep x21 (by decide); have hM21 := hM20.keep x21 (by decide); have h21 := h20.keep x21 (by decide); have t21 := t20.keep x21 (by decide) (by decide); have ct21_0 := kT21.cell 0 rfl; have ct21_1 := kT21.cell 1 rfl; have ct21_2 := kT21.cell 2 rfl; have ct21_3 := kT21.cell 3 rfl; have ct21_4 := kT21.cell 4 rfl; have ct21_5 := kT21.cell 5 rfl; have cx21_0 := kX21.cell 0 rfl; have cx21_1 := kX21.cell 1 rfl; have cx21_2 := kX21.cell 2 rfl; have cx21_3 := kX21.cell 3 rfl; have cx21_4 := kX21.cell 4 rfl; have cx21_5 := kX21.cell 5 rfl)
        | (go_at_call 32; have hc := rvars_any 10 (by decide) t _ own17 _ hT17 HM.out.2.1 HM.out.1; rw [et] at hc; refine hc.mono ?_; rintro e18 w18 ⟨own18, x18, v18, rfl, hr18⟩; obtain ⟨A18, c18, rfl, hc18⟩ := hr18.form; have kT18 := kT17.keep x18 (by decide); have hT18 := TmS.keep x18 (by decide) t _ hT17; have X18 := X17.trans (x18.mono (by decide)); have hV18 := hV17.keep x18 (by decide); have h18 := h17.keep x18 (by decide); have t18 := t17.keep x18 (by decide) (by decide); have ct18_0 := kT18.cell 0 rfl; have ct18_1 := kT18.cell 1 rfl; have ct18_2 := kT18.cell 2 rfl; have ct18_3 := kT18.cell 3 rfl; have ct18_4 := kT18.cell 4 rfl; have ct18_5 := kT18.cell 5 rfl; obtain ⟨x19, hM19⟩ := MV.new own18 9 w18 Try.prog .i64 .i64 3 2; obtain ⟨w19, hW19⟩ : ∃ W, w18.alloc (.map #[] 0) = W := ⟨_, rfl⟩; rw [hW19] at x19 hM19; obtain ⟨own19, ho19⟩ : ∃ o, give own18 w18.heap.size 9 = o := ⟨_, rfl⟩; rw [ho19] at x19 hM19; have kT19 := kT18.keep x19 (by decide); have hT19 := TmS.keep x19 (by decide) t _ hT18; have X19 := X18.trans (x19.mono (by decide)); have hV19 := hV18.keep x19 (by decide); have h19 := h18.keep x19 (by decide); have t19 := t18.keep x19 (by decide) (by decide); have ct19_0 := kT19.cell 0 rfl; have ct19_1 := kT19.cell 1 rfl; have ct19_2 := kT19.cell 2 rfl; have ct19_3 := kT19.cell 3 rfl; have ct19_4 := kT19.cell 4 rfl; have ct19_5 := kT19.cell 5 rfl)
        | (go_at_call 28; have hput := put_any own16 1 2 3 8 (by constructor <;> decide) w16 p1 pt (some w14.heap.size) 1048576 t (.slice A len cap) s2 hT16 h16 t16 (Or.inr ⟨_, rfl, hV16⟩) HL.out.2.2.2.2.2.2.1; rw [et, HL.out.2.2.1] at hput; refine Calls.mono hput ?_; rintro e17 w17 ⟨own17, x17, (rfl : e17 = .returned (.tuple #[.int .u64 c3, .int .i64 0])), h17, t17, hv17⟩; have hV17 : VP own17 8 w17 w14.heap.size s3.V := hv17 _ rfl; replace h17 : HP own17 1 w17 p1 1048576 s3.l := h17; replace t17 : TabP own17 2 3 w17 pt s3.L := t17; have kT17 := kT16.keep x17 (by decide); have hT17 := TmS.keep x17 (by decide) t _ hT16; have X17 := X16.trans (x17.mono (by decide)); have ct17_0 := kT17.cell 0 rfl; have ct17_1 := kT17.cell 1 rfl; have ct17_2 := kT17.cell 2 rfl; have ct17_3 := kT17.cell 3 rfl; have ct17_4 := kT17.cell 4 rfl; have ct17_5 := kT17.cell 5 rfl)
        | (go_at_call 28; have hput := put_any own15 1 2 3 8 (by constructor <;> decide) w15 p1 pt (some w14.heap.size) 1048576 t (.slice A len cap) ⟨s1.l, s1.L, []⟩ hT15 h15 t15 (Or.inr ⟨_, rfl, hV15⟩) (by simp); rw [et, HL.out.2.1] at hput; refine Calls.mono hput ?_; rintro e16 w16 ⟨own16, x16, (rfl : e16 = .returned (.tuple #[.int .u64 c2, .int .i64 0])), h16, t16, hv16⟩; have hV16 : VP own16 8 w16 w14.heap.size s2.V := hv16 _ rfl; replace h16 : HP own16 1 w16 p1 1048576 s2.l := h16; replace t16 : TabP own16 2 3 w16 pt s2.L := t16; have kT16 := kT15.keep x16 (by decide); have hT16 := TmS.keep x16 (by decide) t _ hT15; have X16 := X15.trans (x16.mono (by decide)); have ct16_0 := kT16.cell 0 rfl; have ct16_1 := kT16.cell 1 rfl; have ct16_2 := kT16.cell 2 rfl; have ct16_3 := kT16.cell 3 rfl; have ct16_4 := kT16.cell 4 rfl; have ct16_5 := kT16.cell 5 rfl)
        | (go_at_call 25; refine (awake7_any _).mono ?_; rintro e30 w30 ⟨rfl, hb30⟩)
        | (at_len; first | refine wpList_MV_len _ rfl _ 71 rfl 3 2 Try.underlying71 hM24 rfl ?_ | refine wpList_MV_len _ rfl _ 52 rfl 2 34 Try.underlying52 hV24 rfl ?_ | refine wpList_MV_len _ rfl _ 52 rfl 2 34 Try.underlying52 hV17 rfl ?_))
      go_ret
      exact ⟨rfl, (X24.belowStep hb30).below (fun _ _ => rfl) (by decide)⟩
    · have hm' : (mayE t != 0) = true := by simpa using hm
      go_enter Try.func9, Try.ntmps9
      go_wp2_with (first
        | (go_at_call 24; have hc := rmay_any t _ own3 _ hT3; rw [et] at hc; refine hc.mono ?_; rintro e4 w4 ⟨own4, x4, rfl⟩; have kT4 := kT3.keep x4 (by decide); have hT4 := TmS.keep x4 (by decide) t _ hT3; have X4 := X3.trans (x4.mono (by decide)); have ct4_0 := kT4.cell 0 rfl; have ct4_1 := kT4.cell 1 rfl; have ct4_2 := kT4.cell 2 rfl; have ct4_3 := kT4.cell 3 rfl; have ct4_4 := kT4.cell 4 rfl; have ct4_5 := kT4.cell 5 rfl)
        | (go_at_call 23; refine Calls.mono HLI.out ?_; rintro e w3 ⟨own3, x3, rfl⟩; have kT3 := kT2.keep x3 (by decide); have hT3 := TmS.keep x3 (by decide) t _ hT2; have X3 := X2.trans (x3.mono (by decide)); have ct3_0 := kT3.cell 0 rfl; have ct3_1 := kT3.cell 1 rfl; have ct3_2 := kT3.cell 2 rfl; have ct3_3 := kT3.cell 3 rfl; have ct3_4 := kT3.cell 4 rfl; have ct3_5 := kT3.cell 5 rfl)
        | (go_at_call 25; refine (awake7_any _).mono ?_; rintro e30 w30 ⟨rfl, hb30⟩))
      go_ret
      exact ⟨rfl, (X4.belowStep hb30).below (fun _ _ => rfl) (by decide)⟩
  · rw [show lightA [t] 0 4000 = false from by simpa using hli] at HLI
    go_enter Try.func9, Try.ntmps9
    go_wp2_with (first
      | (go_at_call 23; refine Calls.mono HLI.out ?_; rintro e w3 ⟨own3, x3, rfl⟩; have kT3 := kT2.keep x3 (by decide); have hT3 := TmS.keep x3 (by decide) t _ hT2; have X3 := X2.trans (x3.mono (by decide)); have ct3_0 := kT3.cell 0 rfl; have ct3_1 := kT3.cell 1 rfl; have ct3_2 := kT3.cell 2 rfl; have ct3_3 := kT3.cell 3 rfl; have ct3_4 := kT3.cell 4 rfl; have ct3_5 := kT3.cell 5 rfl)
      | (go_at_call 25; refine (awake7_any _).mono ?_; rintro e30 w30 ⟨rfl, hb30⟩))
    go_ret
    exact ⟨rfl, (X3.belowStep hb30).below (fun _ _ => rfl) (by decide)⟩

end Go.Proofs.Ytlmcfclonncgbaa
