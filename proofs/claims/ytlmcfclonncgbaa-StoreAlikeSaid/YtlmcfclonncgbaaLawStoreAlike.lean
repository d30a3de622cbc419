/- The walk of the law StoreAlike: the same term on two heaps makes the same cells; with other numbers of variables, too. -/
import Derived.Test.YtlmcfclonncgbaaAwake7
import Derived.Test.YtlmcfclonncgbaaAlikeLaw
import Derived.Test.YtlmcfclonncgbaaL3Map
import Derived.Laws.EntriesVeiled
namespace Go.Proofs.Ytlmcfclonncgbaa
open Go.RowKit
set_option linter.unusedVariables false
set_option linter.unusedSimpArgs false

theorem wrapR (n : Int) : -9223372036854775808 ≤ wrap64 n ∧ wrap64 n ≤ 9223372036854775807 := by unfold wrap64; omega
theorem and20 (n : Int) : bits .and .i64 n 1048575 = n % 1048576 := by
  have hb : (BitVec.ofInt 64 n &&& BitVec.ofInt 64 1048575).toNat = (n % ((18446744073709551616 : Nat) : Int)).toNat % 1048576 := by
    rw [BitVec.toNat_and, BitVec.toNat_ofInt]
    exact Nat.and_two_pow_sub_one_eq_mod _ 20
  show IntKind.i64.wrap ((BitVec.ofInt 64 n &&& BitVec.ofInt 64 1048575).toNat : Nat) = _
  rw [hb, IntKind.wrap_i64]
  omega
theorem ren_fn (idc p : Nat) (by_ : Int) (own : Nat → Nat) (w : World) (n : Int) (hI : Blk own idc w p [.int .i64 by_] 2) (hn : -9223372036854775808 ≤ n ∧ n ≤ 9223372036854775807) : Calls Try.prog 34 #[.int .i64 n, .pointer (some ⟨p, 0, none⟩)] w (MadeT own w (.var (wrap64 (n + by_)))) := by
  obtain ⟨F0, hF0, hFF⟩ := own_ne own w.heap.size
  obtain ⟨x1, kZ, y1⟩ := (Ext.refl own [] w).box [.int .i64 0, .string ByteArray.empty, .int .i64 0, .int .u64 0, .int .u64 0, .slice none 0 0] 25 (F0 + 4)
  generalize _root_.Go.Proofs.Ytlmcfclonncgbaa.give own w.heap.size (F0 + 4) = o1 at *
  have c0 := hI.cell 0 rfl
  have l0 := hI.lt
  have HX := Lib.hid (And.intro x1 kZ)
  clear x1 y1 kZ hFF hI hn
  go_enter Try.func34, Try.ntmps34
  go_wp2_with (go_at_call 35; refine (r1var_any o1 _ _).mono ?_; rintro e3 w3 ⟨own3, x3, (rfl : e3 = .returned (.agg #[.int .i64 1, .string ByteArray.empty, .int .i64 (wrap64 (n + by_)), .int .u64 0, .int .u64 0, .slice none 0 0]))⟩; have kZ3 := HX.out.2.keep x3 (by simp); have X3 := HX.out.1.trans x3; have b0 := kZ3.cell 0 rfl; have b1 := kZ3.cell 1 rfl; have b2 := kZ3.cell 2 rfl; have b3 := kZ3.cell 3 rfl; have b4 := kZ3.cell 4 rfl; have b5 := kZ3.cell 5 rfl; have bf0 := kZ3.free 0; have bf1 := kZ3.free 1; have bf2 := kZ3.free 2; have bf3 := kZ3.free 3; have bf4 := kZ3.free 4; have bf5 := kZ3.free 5)
  have hT : TmS own3 w3 (un (.var (wrap64 (n + by_)))) (.slice none 0 0) := leaf_term ⟨by decide, wrapR (n + by_), by decide, by decide, by decide⟩
  have HE := Lib.hid (store_res (v0 := .int .i64 1) (v1 := .string ByteArray.empty) (v2 := .int .i64 (wrap64 (n + by_))) (v3 := .int .u64 0) (v4 := .int .u64 0) (v5 := .slice none 0 0) X3 (Nat.le_refl _) kZ3 (by omega) hT)
  (try simp only [Exit.inBlock, Exit.then])
  refine bodyPost_ret (v := .agg #[.int .i64 1, .string ByteArray.empty, .int .i64 (wrap64 (n + by_)), .int .u64 0, .int .u64 0, .slice none 0 0]) ?_ rfl ?_
  · rw [results_cell1 rfl]
    have kk := HE.out.2.2
    have z0 := kk.cell 0 rfl
    have z1 := kk.cell 1 rfl
    have z2 := kk.cell 2 rfl
    have z3 := kk.cell 3 rfl
    have z4 := kk.cell 4 rfl
    have z5 := kk.cell 5 rfl
    go_simp
    try rfl
  · exact ⟨own3, HE.out.1, none, 0, 0, rfl, HE.out.2.1⟩
def Low (L : List Int) (j : Nat) : Prop := ∀ (i : Nat) (x : Int), i < j → L[i]? = some x → x ≤ 1099511627776
set_option maxRecDepth 100000 in
set_option maxHeartbeats 4000000 in
theorem storeAlike_walk (v0 : Value) (t : Tm) {w : World} (ht : ∃ sl, v0 = valT t sl ∧ TmS own0 w t sl) (by0 : Int) (wb : (Lit.int .i64 by0).wf = true) (_w : World) :
    Calls Try.prog 4 #[v0, .int .i64 by0] w fun e w' => e = .returned (.bool true) ∧ Below w.heap.size w w' := by
  obtain ⟨sl, rfl, hT⟩ := ht
  obtain ⟨A, len, cap, rfl, hL⟩ := hT.args
  have e : valT t (.slice A len cap) = .agg #[.int .i64 t.kind, .string t.name, .int .i64 t.int, .int .u64 t.re, .int .u64 t.im, .slice A len cap] := rfl
  rw [e]
  clear hL
  have hb64 := wf_i64 wb
  clear wb
  obtain ⟨x1, kb, _⟩ := (Ext.refl own0 [] w).box [.int .i64 t.kind, .string t.name, .int .i64 t.int, .int .u64 t.re, .int .u64 t.im, .slice A len cap] 25 0
  replace hT := TmS.keep x1 (by simp) t _ hT
  generalize _root_.Go.Proofs.Ytlmcfclonncgbaa.give own0 w.heap.size 0 = o1 at *
  obtain ⟨x1b, ky, y1b⟩ := x1.box [.int .i64 by0] 2 11
  replace hT := TmS.keep y1b (by simp) t _ hT
  replace kb := kb.keep y1b (by simp)
  generalize _root_.Go.Proofs.Ytlmcfclonncgbaa.give o1 (w.alloc (.cells #[.int .i64 t.kind, .string t.name, .int .i64 t.int, .int .u64 t.re, .int .u64 t.im, .slice A len cap] 25)).heap.size 11 = o2 at *
  simp only [World.size_alloc] at ky
  obtain ⟨W2, hW2⟩ : ∃ W2, (w.alloc (.cells #[.int .i64 t.kind, .string t.name, .int .i64 t.int, .int .u64 t.re, .int .u64 t.im, .slice A len cap] 25)).alloc (.cells #[.int .i64 by0] 2) = W2 := ⟨_, rfl⟩
  change Blk o2 _ ((w.alloc (.cells #[.int .i64 t.kind, .string t.name, .int .i64 t.int, .int .u64 t.re, .int .u64 t.im, .slice A len cap] 25)).alloc (.cells #[.int .i64 by0] 2)) _ _ _ at ky
  change Blk o2 _ ((w.alloc (.cells #[.int .i64 t.kind, .string t.name, .int .i64 t.int, .int .u64 t.re, .int .u64 t.im, .slice A len cap] 25)).alloc (.cells #[.int .i64 by0] 2)) _ _ _ at kb
  change TmS o2 ((w.alloc (.cells #[.int .i64 t.kind, .string t.name, .int .i64 t.int, .int .u64 t.re, .int .u64 t.im, .slice A len cap] 25)).alloc (.cells #[.int .i64 by0] 2)) _ _ at hT
  change Ext _ o2 _ w ((w.alloc (.cells #[.int .i64 t.kind, .string t.name, .int .i64 t.int, .int .u64 t.re, .int .u64 t.im, .slice A len cap] 25)).alloc (.cells #[.int .i64 by0] 2)) at x1b
  rw [hW2] at ky kb hT x1b
  obtain ⟨x2, hL2⟩ := TmL.built o2 W2 [(t, .slice A len cap)] (by intro z hz; simp at hz; subst hz; exact hT) (by simp [maxLen]) 25 [.int .i64 t.kind, .string t.name, .int .i64 t.int, .int .u64 t.re, .int .u64 t.im, .slice A len cap] rfl
  simp only [List.length_cons, List.length_nil, List.map_cons, List.map_nil] at hL2
  generalize _root_.Go.Proofs.Ytlmcfclonncgbaa.give o2 W2.heap.size 0 = o3 at *
  have X2 := x1b.trans x2
  have hT2 := TmS.keep x2 (by simp) t _ hT
  have k2 := kb.keep x2 (by simp)
  have ky2 := ky.keep x2 (by simp)
  have c0 := kb.cell 0 rfl
  have c1 := kb.cell 1 rfl
  have c2 := kb.cell 2 rfl
  have c3 := kb.cell 3 rfl
  have c4 := kb.cell 4 rfl
  have c5 := kb.cell 5 rfl
  have hlight := rlight_any [t] _ _ _ o3 _ hL2
  have HLI := Lib.hid hlight
  have HT := Lib.hid hT2
  clear hlight hL2 hT hT2 x1 x2 x1b y1b kb ky
  by_cases hli : lightA [t] 0 4000 = true
  · rw [hli] at HLI
    by_cases hm : mayE t = 0
    · have hk := (mayE_zero.1 hm).1
      have hm' : (mayE t == 0) = true := by simpa using hm
      have hrg := tms_ranged t _ HT.out hk
      obtain ⟨b1, hb1⟩ : ∃ b, by0 % 1048576 = b := ⟨_, rfl⟩
      have hand : bits BinOp.and IntKind.i64 by0 1048575 = b1 := by rw [and20, hb1]
      have hbr : 0 ≤ b1 ∧ b1 < 1048576 := by omega
      have hnv : nvF t ≤ 1000000 := by have := nvF_nodes t hk; have := (mayE_zero.1 hm).2.2.2; omega
      have HM := Lib.hid (And.intro hm (And.intro hrg (And.intro hk (And.intro hbr hnv))))
      clear hm hrg hk hli hb1 hbr hnv hb64
      go_enter Try.func4, Try.ntmps4
      go_wp2_with (first
        | (go_at_call 23; refine Calls.mono HLI.out ?_; rintro e w3 ⟨own3, x3, rfl⟩; have X3 := X2.trans x3; have k3 := k2.keep x3 (by simp); have ky3 := ky2.keep x3 (by simp); have hT3 := TmS.keep x3 (by simp) t _ HT.out; have d0 := k3.cell 0 rfl; have d1 := k3.cell 1 rfl; have d2 := k3.cell 2 rfl; have d3 := k3.cell 3 rfl; have d4 := k3.cell 4 rfl; have d5 := k3.cell 5 rfl)
        | (go_at_call 24; refine (rmay_any t _ own3 _ hT3).mono ?_; rintro e w4 ⟨own4, x4, rfl⟩; have X4 := X3.trans x4; have k4 := k3.keep x4 (by simp); have ky4 := ky3.keep x4 (by simp); have hT4 := TmS.keep x4 (by simp) t _ hT3; have y0 := ky4.cell 0 rfl; have yf := ky4.free 0; have y5 : Ext own4 own4 [11] w4 (w4.setCell ⟨w.heap.size + 1, 0, none⟩ (.int .i64 b1)) := (Ext.refl own4 [11] w4).setCell _ _ (fun _ => by show own4 (w.heap.size + 1) ∈ _; rw [ky4.2]; simp); have k5 := k4.keep y5 (by simp); have ky5 := ky4.set 0 (.int .i64 b1); have hT5 := TmS.keep y5 (by simp) t _ hT4; have X5 := (X4.mono (jds := [11]) (by simp)).trans y5; have f0 := k5.cell 0 rfl; have f1 := k5.cell 1 rfl; have f2 := k5.cell 2 rfl; have f3 := k5.cell 3 rfl; have f4 := k5.cell 4 rfl; have f5 := k5.cell 5 rfl)
        | (go_at_call 32; have hc := rvars_any 10 (by decide) t _ own4 _ hT5 HM.out.2.2.2.2 HM.out.1; rw [e] at hc; refine hc.mono ?_; rintro e6 w6 ⟨own6, x6, v6, rfl, hr6⟩; have k6 := k5.keep x6 (by simp); have ky6 := ky5.keep x6 (by simp); have hT6 := TmS.keep x6 (by simp) t _ hT5; have X6 := (X5.mono (jds := [11, 10]) (by simp)).trans (x6.mono (by simp)); obtain ⟨A6, c6, rfl, hc6⟩ := hr6.form))
      have hlv := varsF_len t []
      obtain ⟨L, hLL⟩ : ∃ L, varsF t [] = L := ⟨_, rfl⟩
      rw [hLL] at hr6 hc6 hlv ⊢
      have hLn : L.length ≤ 1000000 := by have := HM.out.2.2.2.2; simp at hlv; omega
      have HLL := Lib.hid hLL
      have HB6 := Lib.hid (And.intro k6 (And.intro ky6 (And.intro hT6 X6)))
      clear hLL hlv k6 ky6 hT6 X6 hT5 k5 ky5 X5 x6 y5
      go_loopw [34] (fun v wr => ∃ j : Nat, v = .int .i64 j ∧ j ≤ L.length ∧ wr = w6 ∧ Low L j) (fun v _ => L.length - (intOf v).toNat)
      case atStart => exact ⟨0, rfl, Nat.zero_le _, rfl, fun i x hi => absurd hi (Nat.not_lt_zero i)⟩
      case round =>
        obtain ⟨j, rfl, hj, rfl, hlow⟩ := hrel
        by_cases hlt : j < L.length
        · obtain ⟨g, cp, hv, _⟩ := hr6.form_pos (by omega)
          simp only [Value.slice.injEq] at hv
          obtain ⟨rfl, _, rfl⟩ := hv
          have hx := hr6.cell j (u := .int .i64 L[j]) (by simp [hlt])
          have hgj : L[j]? = some L[j] := List.getElem?_eq_getElem hlt
          obtain ⟨y, hy⟩ : ∃ y, L[j] = y := ⟨_, rfl⟩
          rw [hy] at hx hgj
          have HLO := Lib.hid (And.intro hlow hgj)
          clear hy hlow hgj
          by_cases hbig : 1099511627776 < y
          · have hbd : decide (1099511627776 < y) = true := by simpa using hbig
            clear hbig
            go_wp2_with (go_at_call 25; refine (awake7_any _).mono ?_; rintro e w7 ⟨rfl, hb7⟩)
            go_ret
            exact ⟨rfl, (HB6.out.2.2.2.belowStep hb7).below (fun _ _ => rfl) (by decide)⟩
          · have hbd : decide (1099511627776 < y) = false := by simpa using hbig
            have HBG := Lib.hid hbig
            clear hbig
            go_wp2_with fail
            go_roundw
            case measure => simp [intOf]; omega
            refine ⟨j + 1, by go_num, by omega, by first | trivial | rfl, fun i x hi hgx => ?_⟩
            by_cases hij : i < j
            · exact HLO.out.1 i x hij hgx
            · obtain rfl : i = j := by omega
              rw [HLO.out.2] at hgx
              cases hgx
              have := HBG.out; omega
        · obtain rfl : j = L.length := by omega
          have hall : ∀ n ∈ L, n ≤ 1099511627776 := fun n hn => by
            obtain ⟨i, hi, he⟩ := List.getElem_of_mem hn
            exact hlow i n hi (by rw [List.getElem?_eq_getElem hi, he])
          have HA := Lib.hid hall
          clear hall hlow
          obtain ⟨kX6, kY6, hT6, X6⟩ := HB6.out
          have gY := kY6
          have g0 := kX6.cell 0 rfl; have g1 := kX6.cell 1 rfl; have g2 := kX6.cell 2 rfl; have g3 := kX6.cell 3 rfl; have g4 := kX6.cell 4 rfl; have g5 := kX6.cell 5 rfl
          have hk := HM.out.2.2.1
          have hf := (mayE_zero.1 HM.out.1).2.1
          obtain ⟨hm2, l, L1, L2, V1, V2, c, hp1, hp2⟩ := alike_law t b1 (fun n => .var (wrap64 (n + b1))) HM.out.1 HM.out.2.1 HM.out.2.2.2.1.1 (fun n h0 h1 => by
            have h2 := HM.out.2.2.2.1.2
            have h3 := HM.out.2.2.2.1.1
            show CT.var (wrap64 (n + b1)) = _
            congr 1
            unfold wrap64; omega) (by rw [HLL.out]; exact HA.out)
          have hmap := l3map_any 34 (w.heap.size + 1) (fun n => .var (wrap64 (n + b1))) 11 (fun o W => Blk o 11 W (w.heap.size + 1) [.int .i64 b1] 2) (fun _ _ _ _ _ h x hi => h.keep x hi) (fun args w => by kernel_rfl) (fun o W n h hn => ren_fn 11 _ b1 o W n h hn) t (.slice A len cap) own6 wr hT6 hk hf kY6
          rw [e] at hmap
          obtain ⟨U, hU⟩ : ∃ U, subst (fun n => .var (wrap64 (n + b1))) (cl t) = U := ⟨_, rfl⟩
          rw [hU] at hmap hm2 hp2
          have HMA := Lib.hid (And.intro hmap (And.intro hp1 (And.intro hp2 hm2)))
          clear hmap hp1 hp2 hm2 hk hf hU gY hr6 hc6
          go_wp2_with (go_at_call 33; refine Calls.mono HMA.out.1 ?_; rintro e7 w7 ⟨own7, x7, A7, l7, c7, (rfl : e7 = .returned (.agg #[.int .i64 (un U).kind, .string (un U).name, .int .i64 (un U).int, .int .u64 (un U).re, .int .u64 (un U).im, .slice A7 l7 c7])), hU7⟩)
          obtain ⟨x8, kU, y8⟩ := (X6.trans (x7.mono (by simp))).box [.int .i64 (un U).kind, .string (un U).name, .int .i64 (un U).int, .int .u64 (un U).re, .int .u64 (un U).im, .slice A7 l7 c7] 25 0
          have kX8 := (kX6.keep x7 (by simp)).keep y8 (by simp)
          have hT8 := TmS.keep y8 (by simp) t _ (TmS.keep x7 (by simp) t _ hT6)
          have hU8 := TmS.keep y8 (by simp) _ _ hU7
          generalize _root_.Go.Proofs.Ytlmcfclonncgbaa.give own7 w7.heap.size 0 = own8 at *
          clear x7 y8 hT6 kX6 kY6 hU7 X6
          obtain ⟨Z, hZ⟩ : ∃ Z, w7.heap.size = Z := ⟨_, rfl⟩
          rw [hZ] at kU ⊢
          refine (new_any own8 1 1048576 _).mono ?_
          rintro e9 w9 ⟨own9, x9, rfl, hlt9, h9⟩
          obtain ⟨p1, hp1⟩ : ∃ p, (w7.alloc (.cells #[.int .i64 (un U).kind, .string (un U).name, .int .i64 (un U).int, .int .u64 (un U).re, .int .u64 (un U).im, .slice A7 l7 c7] 25)).heap.size = p := ⟨_, rfl⟩
          rw [hp1] at h9 ⊢
          go_wp2_with fail
          refine (new_any own9 5 1048576 _).mono ?_
          rintro e10 w10 ⟨own10, x10, rfl, hlt10, h10b⟩
          obtain ⟨p2, hp2⟩ : ∃ p, w9.heap.size = p := ⟨_, rfl⟩
          rw [hp2] at h10b ⊢
          have x910 := x9.trans x10
          have h10 := h9.keep x10 (by decide)
          have kX10 := kX8.keep x910 (by simp)
          have kU10 := kU.keep x910 (by simp)
          have hT10 := TmS.keep x910 (by simp) t _ hT8
          have hU10 := TmS.keep x910 (by simp) _ _ hU8
          have X10 := x8.trans (x910.mono (by simp))
          clear x9 x10 x910 h9 kX8 kU hT8 hU8 x8 hlt9 hlt10 hZ hp1 hp2
          go_wp2_with fail
          have HS12 : w10.drew.cell? ⟨w.heap.size, 0, none⟩ = some (.int .i64 t.kind) ∧ w10.drew.cell? ⟨w.heap.size, 1, none⟩ = some (.string t.name) ∧ w10.drew.cell? ⟨w.heap.size, 2, none⟩ = some (.int .i64 t.int) ∧ w10.drew.cell? ⟨w.heap.size, 3, none⟩ = some (.int .u64 t.re) ∧ w10.drew.cell? ⟨w.heap.size, 4, none⟩ = some (.int .u64 t.im) ∧ w10.drew.cell? ⟨w.heap.size, 5, none⟩ = some (.slice A len cap) := ⟨kX10.cell 0 rfl, kX10.cell 1 rfl, kX10.cell 2 rfl, kX10.cell 3 rfl, kX10.cell 4 rfl, kX10.cell 5 rfl⟩
          refine wp_calmN ?_
          refine wp_region_till 3 (fun W => W.cell? ⟨w.heap.size, 0, none⟩ = some (.int .i64 t.kind) ∧ W.cell? ⟨w.heap.size, 1, none⟩ = some (.string t.name) ∧ W.cell? ⟨w.heap.size, 2, none⟩ = some (.int .i64 t.int) ∧ W.cell? ⟨w.heap.size, 3, none⟩ = some (.int .u64 t.re) ∧ W.cell? ⟨w.heap.size, 4, none⟩ = some (.int .u64 t.im) ∧ W.cell? ⟨w.heap.size, 5, none⟩ = some (.slice A len cap)) (by kernel_rfl) ?_
          refine wpTill_free 0 (v := ?_) rfl (by kernel_rfl) (by kernel_rfl) (by kernel_rfl) (by kernel_rfl) (fun _ _ _ h => h) rfl (fun _ => HS12) ?_ ?_
          rotate_left 1
          · intro w; go_simp; try with_reducible rfl
          try simp only [Act.put, List.setIfInBounds_toArray, List.set_cons_zero, List.set_cons_succ, List.getElem_toArray, List.getElem_cons_succ, List.getElem_cons_zero]
          refine wpTill_take 2 (v := ?_) rfl (by kernel_rfl) (by kernel_rfl) (by kernel_rfl) (by kernel_rfl) (by kernel_rfl) (fun _ _ _ h => h) rfl HS12 ?_ ?_
          rotate_left 1
          · intro w hSw; go_split_ands; go_simp; try with_reducible rfl
          try simp only [Act.put, List.setIfInBounds_toArray, List.set_cons_zero, List.set_cons_succ, List.getElem_toArray, List.getElem_cons_succ, List.getElem_cons_zero]
          refine wpTill_one 1 rfl (by kernel_rfl) rfl (fun K hK => ?_)
          go_simp
          refine (anew_any own10 2 3 _ (by decide)).mono ?_
          rintro e11 w11 ⟨own11, pt1, x11, rfl, hle11, hlt11, t11⟩
          replace x11 := x11.ofDraw
          have kX11 := kX10.keep x11 (by simp)
          have kU11 := kU10.keep x11 (by simp)
          have hT11 := TmS.keep x11 (by simp) t _ hT10
          have hU11 := TmS.keep x11 (by simp) _ _ hU10
          have X11 := X10.trans (x11.mono (by simp))
          have h11 := h10.keep x11 (by decide)
          have h11b := h10b.keep x11 (by decide)
          refine hK.out _ _ (fun _ => ⟨kX11.cell 0 rfl, kX11.cell 1 rfl, kX11.cell 2 rfl, kX11.cell 3 rfl, kX11.cell 4 rfl, kX11.cell 5 rfl⟩) ?_
          clear hK K
          try simp only [Act.put, List.setIfInBounds_toArray, List.set_cons_zero, List.set_cons_succ, List.getElem_toArray, List.getElem_cons_succ, List.getElem_cons_zero]
          have hput := put_any own11 1 2 3 4 (by constructor <;> decide) w11 p1 pt1 none (mostOf 1048576) t (.slice A len cap) ⟨[], names0, []⟩ hT11 h11 t11 (Or.inl ⟨rfl, rfl⟩) (by decide)
          rw [e, show putR (mostOf 1048576) t ⟨[], names0, []⟩ = _ from HMA.out.2.1] at hput
          refine wpTill_one 3 rfl (by kernel_rfl) rfl (fun K hK => ?_)
          go_simp
          refine Calls.mono hput ?_
          rintro e12 w12 ⟨own12, x12, (rfl : e12 = .returned (.tuple #[.int .u64 c, .int .i64 0])), h12, t12, _⟩
          refine hK.out _ _ (Till.gone (by kernel_rfl)) ?_
          clear hK K
          try simp only [Act.put, List.setIfInBounds_toArray, List.set_cons_zero, List.set_cons_succ, List.getElem_toArray, List.getElem_cons_succ, List.getElem_cons_zero]
          refine wpTill_free 4 (v := ?_) rfl (by kernel_rfl) (by kernel_rfl) (by kernel_rfl) (by kernel_rfl) (fun _ _ _ h => h) rfl (Till.gone (by kernel_rfl)) ?_ ?_
          rotate_left 1
          · intro w; go_simp; try with_reducible rfl
          try simp only [Act.put, List.setIfInBounds_toArray, List.set_cons_zero, List.set_cons_succ, List.getElem_toArray, List.getElem_cons_succ, List.getElem_cons_zero]
          refine wpTill_free 5 (v := ?_) rfl (by kernel_rfl) (by kernel_rfl) (by kernel_rfl) (by kernel_rfl) (fun _ _ _ h => h) rfl (Till.gone (by kernel_rfl)) ?_ ?_
          rotate_left 1
          · intro w; go_simp; try with_reducible rfl
          try simp only [Act.put, List.setIfInBounds_toArray, List.set_cons_zero, List.set_cons_succ, List.getElem_toArray, List.getElem_cons_succ, List.getElem_cons_zero]
          refine wpTill_free 6 (v := ?_) rfl (by kernel_rfl) (by kernel_rfl) (by kernel_rfl) (by kernel_rfl) (fun _ _ _ h => h) rfl (Till.gone (by kernel_rfl)) ?_ ?_
          rotate_left 1
          · intro w; go_simp; try with_reducible rfl
          try simp only [Act.put, List.setIfInBounds_toArray, List.set_cons_zero, List.set_cons_succ, List.getElem_toArray, List.getElem_cons_succ, List.getElem_cons_zero]
          refine wpTill_free 7 (v := ?_) rfl (by kernel_rfl) (by kernel_rfl) (by kernel_rfl) (by kernel_rfl) (fun _ _ _ h => h) rfl (Till.gone (by kernel_rfl)) ?_ ?_
          rotate_left 1
          · intro w; go_simp; try with_reducible rfl
          try simp only [Act.put, List.setIfInBounds_toArray, List.set_cons_zero, List.set_cons_succ, List.getElem_toArray, List.getElem_cons_succ, List.getElem_cons_zero]
          refine wpTill_free 8 (v := ?_) rfl (by kernel_rfl) (by kernel_rfl) (by kernel_rfl) (by kernel_rfl) (fun _ _ _ h => h) rfl (Till.gone (by kernel_rfl)) ?_ ?_
          rotate_left 1
          · intro w; go_simp; try with_reducible rfl
          try simp only [Act.put, List.setIfInBounds_toArray, List.set_cons_zero, List.set_cons_succ, List.getElem_toArray, List.getElem_cons_succ, List.getElem_cons_zero]
          refine wpTill_done (by kernel_rfl) ?_ _
          have h13b := h11b.keep x12 (by decide)
          have kU12 := kU11.keep x12 (by simp)
          have hU12 := TmS.keep x12 (by simp) _ _ hU11
          have X12 := (X11.mono (jds := [1, 2, 3, 4, 10, 11]) (by decide)).trans (x12.mono (by decide))
          clear HS12 hput x12 kU11 hU11 X11 h11 h11b t11 kX11 hT11 kX10 kU10 hT10 hU10 X10 h10 h10b
          go_wp2_with fail
          have HS13 : w12.drew.cell? ⟨Z, 0, none⟩ = some (.int .i64 (un U).kind) ∧ w12.drew.cell? ⟨Z, 1, none⟩ = some (.string (un U).name) ∧ w12.drew.cell? ⟨Z, 2, none⟩ = some (.int .i64 (un U).int) ∧ w12.drew.cell? ⟨Z, 3, none⟩ = some (.int .u64 (un U).re) ∧ w12.drew.cell? ⟨Z, 4, none⟩ = some (.int .u64 (un U).im) ∧ w12.drew.cell? ⟨Z, 5, none⟩ = some (.slice A7 l7 c7) := ⟨kU12.cell 0 rfl, kU12.cell 1 rfl, kU12.cell 2 rfl, kU12.cell 3 rfl, kU12.cell 4 rfl, kU12.cell 5 rfl⟩
          refine wp_calmN ?_
          refine wp_region_till 3 (fun W => W.cell? ⟨Z, 0, none⟩ = some (.int .i64 (un U).kind) ∧ W.cell? ⟨Z, 1, none⟩ = some (.string (un U).name) ∧ W.cell? ⟨Z, 2, none⟩ = some (.int .i64 (un U).int) ∧ W.cell? ⟨Z, 3, none⟩ = some (.int .u64 (un U).re) ∧ W.cell? ⟨Z, 4, none⟩ = some (.int .u64 (un U).im) ∧ W.cell? ⟨Z, 5, none⟩ = some (.slice A7 l7 c7)) (by kernel_rfl) ?_
          refine wpTill_free 0 (v := ?_) rfl (by kernel_rfl) (by kernel_rfl) (by kernel_rfl) (by kernel_rfl) (fun _ _ _ h => h) rfl (fun _ => HS13) ?_ ?_
          rotate_left 1
          · intro w; go_simp; try with_reducible rfl
          try simp only [Act.put, List.setIfInBounds_toArray, List.set_cons_zero, List.set_cons_succ, List.getElem_toArray, List.getElem_cons_succ, List.getElem_cons_zero]
          refine wpTill_take 2 (v := ?_) rfl (by kernel_rfl) (by kernel_rfl) (by kernel_rfl) (by kernel_rfl) (by kernel_rfl) (fun _ _ _ h => h) rfl HS13 ?_ ?_
          rotate_left 1
          · intro w hSw; go_split_ands; go_simp; try with_reducible rfl
          try simp only [Act.put, List.setIfInBounds_toArray, List.set_cons_zero, List.set_cons_succ, List.getElem_toArray, List.getElem_cons_succ, List.getElem_cons_zero]
          refine wpTill_one 1 rfl (by kernel_rfl) rfl (fun K hK => ?_)
          go_simp
          refine (anew_any own12 6 7 _ (by decide)).mono ?_
          rintro e13 w13 ⟨own13, pt2, x13, rfl, hle13, hlt13, t13⟩
          replace x13 := x13.ofDraw
          have kU13 := kU12.keep x13 (by simp)
          have hU13 := TmS.keep x13 (by simp) _ _ hU12
          have X13 := X12.trans (x13.mono (by simp))
          replace h12 := h12.keep x13 (by decide)
          have h13 := h13b.keep x13 (by decide)
          refine hK.out _ _ (fun _ => ⟨kU13.cell 0 rfl, kU13.cell 1 rfl, kU13.cell 2 rfl, kU13.cell 3 rfl, kU13.cell 4 rfl, kU13.cell 5 rfl⟩) ?_
          clear hK K
          try simp only [Act.put, List.setIfInBounds_toArray, List.set_cons_zero, List.set_cons_succ, List.getElem_toArray, List.getElem_cons_succ, List.getElem_cons_zero]
          have hput := put_any own13 5 6 7 8 (by constructor <;> decide) w13 p2 pt2 none (mostOf 1048576) (un U) (.slice A7 l7 c7) ⟨[], names0, []⟩ hU13 h13 t13 (Or.inl ⟨rfl, rfl⟩) (by decide)
          rw [show valT (un U) (.slice A7 l7 c7) = .agg #[.int .i64 (un U).kind, .string (un U).name, .int .i64 (un U).int, .int .u64 (un U).re, .int .u64 (un U).im, .slice A7 l7 c7] from rfl, show putR (mostOf 1048576) (un U) ⟨[], names0, []⟩ = _ from HMA.out.2.2.1] at hput
          refine wpTill_one 3 rfl (by kernel_rfl) rfl (fun K hK => ?_)
          go_simp
          refine Calls.mono hput ?_
          rintro e14 w14 ⟨own14, x14, (rfl : e14 = .returned (.tuple #[.int .u64 c, .int .i64 0])), h14, t14, _⟩
          refine hK.out _ _ (Till.gone (by kernel_rfl)) ?_
          clear hK K
          try simp only [Act.put, List.setIfInBounds_toArray, List.set_cons_zero, List.set_cons_succ, List.getElem_toArray, List.getElem_cons_succ, List.getElem_cons_zero]
          refine wpTill_free 4 (v := ?_) rfl (by kernel_rfl) (by kernel_rfl) (by kernel_rfl) (by kernel_rfl) (fun _ _ _ h => h) rfl (Till.gone (by kernel_rfl)) ?_ ?_
          rotate_left 1
          · intro w; go_simp; try with_reducible rfl
          try simp only [Act.put, List.setIfInBounds_toArray, List.set_cons_zero, List.set_cons_succ, List.getElem_toArray, List.getElem_cons_succ, List.getElem_cons_zero]
          refine wpTill_free 5 (v := ?_) rfl (by kernel_rfl) (by kernel_rfl) (by kernel_rfl) (by kernel_rfl) (fun _ _ _ h => h) rfl (Till.gone (by kernel_rfl)) ?_ ?_
          rotate_left 1
          · intro w; go_simp; try with_reducible rfl
          try simp only [Act.put, List.setIfInBounds_toArray, List.set_cons_zero, List.set_cons_succ, List.getElem_toArray, List.getElem_cons_succ, List.getElem_cons_zero]
          refine wpTill_free 6 (v := ?_) rfl (by kernel_rfl) (by kernel_rfl) (by kernel_rfl) (by kernel_rfl) (fun _ _ _ h => h) rfl (Till.gone (by kernel_rfl)) ?_ ?_
          rotate_left 1
          · intro w; go_simp; try with_reducible rfl
          try simp only [Act.put, List.setIfInBounds_toArray, List.set_cons_zero, List.set_cons_succ, List.getElem_toArray, List.getElem_cons_succ, List.getElem_cons_zero]
          refine wpTill_free 7 (v := ?_) rfl (by kernel_rfl) (by kernel_rfl) (by kernel_rfl) (by kernel_rfl) (fun _ _ _ h => h) rfl (Till.gone (by kernel_rfl)) ?_ ?_
          rotate_left 1
          · intro w; go_simp; try with_reducible rfl
          try simp only [Act.put, List.setIfInBounds_toArray, List.set_cons_zero, List.set_cons_succ, List.getElem_toArray, List.getElem_cons_succ, List.getElem_cons_zero]
          refine wpTill_free 8 (v := ?_) rfl (by kernel_rfl) (by kernel_rfl) (by kernel_rfl) (by kernel_rfl) (fun _ _ _ h => h) rfl (Till.gone (by kernel_rfl)) ?_ ?_
          rotate_left 1
          · intro w; go_simp; try with_reducible rfl
          try simp only [Act.put, List.setIfInBounds_toArray, List.set_cons_zero, List.set_cons_succ, List.getElem_toArray, List.getElem_cons_succ, List.getElem_cons_zero]
          refine wpTill_done (by kernel_rfl) ?_ _
          have h15 : HP own14 1 w14 p1 (mostOf 1048576) l := h12.keep x14 (by decide)
          replace h14 : HP own14 5 w14 p2 (mostOf 1048576) l := h14
          have X14 := (X13.mono (jds := [1, 2, 3, 4, 5, 6, 7, 8, 10, 11]) (by decide)).trans (x14.mono (by decide))
          have hll : l.length ≤ 1048576 := by have := h15.len; have e : mostOf 1048576 = 1048576 := rfl; omega
          have HX14 := Lib.hid X14
          clear HS13 hput x14 h12 h13 h13b t13 kU12 kU13 hU12 hU13 X12 X13 X14 x13
          go_wp2_with fail
          refine (len_any own14 1 p1 _ l _ h15).mono ?_
          rintro e15 w15 ⟨rfl, n15, rfl⟩
          go_wp2_with fail
          refine (len_any own14 5 p2 _ l _ (h14.dr _)).mono ?_
          rintro e16 w16 ⟨rfl, n16, rfl⟩
          go_wp2_with fail
          refine (len_any own14 1 p1 _ l _ (h15.dr _)).mono ?_
          rintro e17 w17 ⟨rfl, n17, rfl⟩
          go_wp2_with fail
          go_loopw [81] (fun v wr => ∃ (j m : Nat), v = .int .i64 j ∧ j ≤ l.length ∧ wr = w14.drewN m) (fun v _ => l.length - (intOf v).toNat)
          case atStart => exact ⟨0, _, rfl, Nat.zero_le _, rfl⟩
          case round =>
            obtain ⟨j, m, rfl, hj, rfl⟩ := hrel
            by_cases hlt : j < l.length
            · go_wp2_with fail
              refine (get_in own14 1 p1 _ j l _ (h15.dr _) (by omega) (by omega)).mono ?_
              rintro e18 w18 ⟨rfl, n18, rfl⟩
              go_wp2_with fail
              refine (get_in own14 5 p2 _ j l _ (h14.dr _) (by omega) (by omega)).mono ?_
              rintro e19 w19 ⟨rfl, n19, rfl⟩
              go_wp2_with fail
              go_roundw
              case measure => simp [intOf]; omega
              exact ⟨j + 1, _, by go_num, by omega, rfl⟩
            · obtain rfl : j = l.length := by omega
              go_wp2_with (go_at_call 25; refine (awake7_any _).mono ?_; rintro e20 w20 ⟨rfl, hb20⟩)
              go_ret
              exact ⟨rfl, ((HX14.out.drewN _).belowStep hb20).below (fun _ _ => rfl) (by decide)⟩
    · have hm' : (mayE t == 0) = false := by simpa using hm
      go_enter Try.func4, Try.ntmps4
      go_wp2_with (first
        | (go_at_call 23; refine Calls.mono HLI.out ?_; rintro e w3 ⟨own3, x3, rfl⟩; have X3 := X2.trans x3; have k3 := k2.keep x3 (by simp); have hT3 := TmS.keep x3 (by simp) t _ HT.out; have d0 := k3.cell 0 rfl; have d1 := k3.cell 1 rfl; have d2 := k3.cell 2 rfl; have d3 := k3.cell 3 rfl; have d4 := k3.cell 4 rfl; have d5 := k3.cell 5 rfl)
        | (go_at_call 24; refine (rmay_any t _ own3 _ hT3).mono ?_; rintro e w4 ⟨own4, x4, rfl⟩; have X4 := X3.trans x4)
        | (go_at_call 25; refine (awake7_any _).mono ?_; rintro e w5 ⟨rfl, hb5⟩))
      go_ret
      exact ⟨rfl, (X4.belowStep hb5).below (fun _ _ => rfl) (by decide)⟩
  · rw [show lightA [t] 0 4000 = false from by simpa using hli] at HLI
    go_enter Try.func4, Try.ntmps4
    go_wp2_with (first
      | (go_at_call 23; refine Calls.mono HLI.out ?_; rintro e w3 ⟨own3, x3, rfl⟩; have X3 := X2.trans x3)
      | (go_at_call 25; refine (awake7_any _).mono ?_; rintro e w5 ⟨rfl, hb5⟩))
    go_ret
    exact ⟨rfl, (X3.belowStep hb5).below (fun _ _ => rfl) (by decide)⟩

end Go.Proofs.Ytlmcfclonncgbaa
