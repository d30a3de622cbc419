/- The walk of the law StoreGets: any cells as a term, on a heap of any cells. -/
import Derived.Test.YtlmcfclonncgbaaEqual
import Derived.Test.YtlmcfclonncgbaaPk7
import Derived.Test.YtlmcfclonncgbaaPk6
import Derived.Test.YtlmcfclonncgbaaRAtoms
namespace Go.Proofs.Ytlmcfclonncgbaa
open Go.RowKit
set_option linter.unusedVariables false
set_option linter.unusedSimpArgs false

theorem Came.strB {len cap b o : Nat} {w w' : World} {xs : List ByteArray} (h : Came RStr 1 w (some ⟨b, o, none⟩) len cap xs) (hb : Below w.heap.size w w') (k : Nat) (hk : k < len) :
    ∃ s, w'.cell? ⟨b, o + k, none⟩ = some (.string s) := by
  have hk' : k < xs.length := by rw [h.length]; exact hk
  obtain ⟨b', o', cs, he, hR, _, hc⟩ := h.cell hb k _ (List.getElem?_eq_getElem hk')
  simp at he
  obtain ⟨rfl, rfl⟩ := he
  have := hc 0 (.string xs[k]) (by rw [hR.1]; rfl)
  rw [Nat.mul_one, Nat.add_zero] at this
  exact ⟨_, this⟩
theorem numL_one (L : List ByteArray) (s : ByteArray) : (numL L s).length ≤ L.length + 1 := by
  obtain ⟨M, h1, h2⟩ := numL_pre L s
  rw [h1, List.length_append]; omega
set_option maxRecDepth 100000 in
set_option maxHeartbeats 4000000 in
theorem storeGets_walk (A : Option Addr) (len cap : Nat) (xs : List Int) {w : World} (hc : Came RWord 1 w A len cap xs) (A' : Option Addr) (len' cap' : Nat) (ys : List ByteArray) (hd : Came RStr 1 w A' len' cap' ys) (c : Int) (wc : (Lit.int .u64 c).wf = true) (_w : World) :
    Calls Try.prog 7 #[.slice A len cap, .slice A' len' cap', .int .u64 c] w fun e w' => e = .returned (.bool true) ∧ Below w.heap.size w w' := by
  have hmax := hc.max
  have hle := hc.le
  have hmax' := hd.max
  have hle' := hd.le
  have hlen := hc.length
  have hc0 := wf_u64 wc
  clear wc
  unfold maxLen at hmax hmax'
  have HL := Lib.hid hlen
  by_cases h80 : 80 < len
  · have h80' : (80 : Int) < (len : Int) := by omega
    go_enter Try.func7, Try.ntmps7
    go_wp2_with (go_at_call 25; refine (awake7_any _).mono ?_; rintro e30 w30 ⟨rfl, hb30⟩)
    go_ret
    exact ⟨rfl, hb30⟩
  · have h80' : (len : Int) ≤ 80 := by omega
    by_cases h20 : 20 < len'
    · have h20' : (20 : Int) < (len' : Int) := by omega
      go_enter Try.func7, Try.ntmps7
      go_wp2_with (go_at_call 25; refine (awake7_any _).mono ?_; rintro e30 w30 ⟨rfl, hb30⟩)
      go_ret
      exact ⟨rfl, hb30⟩
    · have h20' : (len' : Int) ≤ 20 := by omega
      have HC := Lib.hid (And.intro hc0 hlen)
      clear hlen hc0
      go_enter Try.func7, Try.ntmps7
      go_wp2_with fail
      refine (new_any own0 1 100 _).mono ?_
      rintro e w1 ⟨own1, x1, rfl, hlt1, h1⟩
      obtain ⟨p, hp⟩ : ∃ p, w.heap.size = p := ⟨_, rfl⟩
      replace h1 : HP own1 1 w1 w.heap.size 100 [] := h1
      rw [hp] at h1 ⊢
      go_wp2_with fail
      refine (anew_any own1 2 3 _ (by decide)).mono ?_
      rintro e w2 ⟨own2, pt, x2, rfl, hle2, hlt2, t2⟩
      go_wp2_with fail
      refine (rnew_any own2 5 100 _).mono ?_
      rintro e w3 ⟨own3, x3, rfl, hlt3, g3⟩
      obtain ⟨ph, hph⟩ : ∃ p, w2.heap.size = p := ⟨_, rfl⟩
      replace g3 : RH own3 5 w3 w2.heap.size 100 [] := g3
      rw [hph] at g3 ⊢
      go_wp2_with fail
      refine (ranew_any own3 6 _).mono ?_
      rintro e w4 ⟨own4, pa, x4, rfl, hle4, hlt4, n4⟩
      have H4 := Lib.hid (And.intro ((((Ext.refl own0 [1, 2, 3, 4, 5, 6, 7] w).trans (x1.mono (by decide))).trans (x2.mono (by decide))).trans ((x3.mono (by decide)).trans (x4.mono (by decide)))) (And.intro (((h1.keep x2 (by decide)).keep x3 (by decide)).keep x4 (by decide)) (And.intro ((t2.keep x3 (by decide) (by decide)).keep x4 (by decide) (by decide)) (And.intro (g3.keep x4 (by decide)) n4))))
      clear x1 x2 x3 x4 h1 t2 g3 n4 hlt1 hle2 hlt2 hlt3 hle4 hlt4 hp hph
      go_wp2_with fail
      go_loopw [34] (fun v wr => ∃ (k : Nat) (own : Nat → Nat), v = .int .i64 k ∧ k ≤ len ∧ Ext own0 own [1, 2, 3, 4, 5, 6, 7] w wr ∧ HP own 1 wr p 100 (xs.take k) ∧ TabP own 2 3 wr pt names0 ∧ RH own 5 wr ph 100 (xs.take k) ∧ RAP own 6 wr pa names0) (fun v _ => len - (intOf v).toNat)
      case atStart => exact ⟨0, own4, rfl, Nat.zero_le _, H4.out.1, H4.out.2.1, H4.out.2.2.1, H4.out.2.2.2.1, H4.out.2.2.2.2⟩
      case round =>
        obtain ⟨k, own, rfl, hk, x, h, t, g, n⟩ := hrel
        by_cases hlt : k < len
        · obtain ⟨b, o, rfl⟩ := hc.addr (by omega)
          have ck := hc.word (x.done (by decide)) k hlt
          have htk : (xs.take k).length = k := by rw [List.length_take, HL.out]; omega
          have hpu := push_room own 1 p 100 (xs.getD k 0) (xs.take k) wr h (by rw [htk]; omega)
          obtain ⟨y, hy⟩ : ∃ y, xs.getD k 0 = y := ⟨_, rfl⟩
          have hts : xs.take (k + 1) = xs.take k ++ [y] := by rw [take_succ_getD _ _ (by rw [HL.out]; omega), hy]
          rw [hy] at ck hpu
          have HPU := Lib.hid hpu
          have HI := Lib.hid (And.intro x (And.intro t (And.intro g (And.intro n (And.intro htk hts)))))
          clear hpu htk hts hy x t g n h
          go_wp2_with (first
            | (go_at_call 45; refine (rpush_room own2 5 ph 100 y (xs.take k) w2 g2 (by rw [HI.out.2.2.2.2.1]; omega)).mono ?_; rintro e w3 ⟨own3, x3, rfl, g3⟩)
            | (go_at_call 44; refine HPU.out.mono ?_; rintro e w2 ⟨own2, x2, rfl, h2⟩; have g2 := HI.out.2.2.1.keep x2 (by decide)))
          go_roundw
          case measure => simp [intOf]; omega
          exact ⟨k + 1, own3, by go_num, by omega, (HI.out.1.trans (x2.mono (by decide))).trans (x3.mono (by decide)), by rw [HI.out.2.2.2.2.2]; exact h2.keep x3 (by decide), (HI.out.2.1.keep x2 (by decide) (by decide)).keep x3 (by decide) (by decide), by rw [HI.out.2.2.2.2.2]; exact g3, (HI.out.2.2.2.1.keep x2 (by decide)).keep x3 (by decide)⟩
        · have hkl : k = len := by omega
          have htl : xs.take k = xs := by rw [List.take_of_length_le (by rw [HL.out]; omega)]
          rw [htl] at h g
          have H5 := Lib.hid (And.intro x (And.intro h (And.intro t (And.intro g n))))
          clear x h t g n htl
          have hkl2 : len = k := hkl.symm
          subst hkl2
          go_wp2_with fail
          go_loopw [47] (fun v wr2 => ∃ (k : Nat) (own : Nat → Nat) (L : List ByteArray), v = .int .i64 k ∧ k ≤ len' ∧ Ext own0 own [1, 2, 3, 4, 5, 6, 7] w wr2 ∧ HP own 1 wr2 p 100 xs ∧ TabP own 2 3 wr2 pt L ∧ RH own 5 wr2 ph 100 xs ∧ RAP own 6 wr2 pa L ∧ L.length ≤ 2 + k) (fun v _ => len' - (intOf v).toNat)
          case atStart => exact ⟨0, own, names0, rfl, Nat.zero_le _, H5.out.1, H5.out.2.1, H5.out.2.2.1, H5.out.2.2.2.1, H5.out.2.2.2.2, by decide⟩
          case round =>
            obtain ⟨j, own9, L, rfl, hj, x, h, t, g, n, hLl⟩ := hrel
            by_cases hlt2 : j < len'
            · obtain ⟨b, o, rfl⟩ := hd.addr (by omega)
              obtain ⟨s, cs⟩ := hd.strB (x.done (by decide)) j hlt2
              have hnu := anumber_any own9 2 3 pt s L _ t (by decide)
              have HNU := Lib.hid hnu
              have HI := Lib.hid (And.intro x (And.intro h (And.intro g (And.intro n hLl))))
              clear hnu x h t g n
              go_wp2_with (first
                | (go_at_call 47; refine (ranumber_any own2 6 pa s L w2 n2).mono ?_; rintro e w3 ⟨own3, x3, rfl, n3⟩)
                | (go_at_call 46; refine HNU.out.mono ?_; rintro e w2 ⟨own2, x2, rfl, t2⟩; have n2 := HI.out.2.2.2.1.keep x2 (by decide)))
              go_roundw
              case measure => simp [intOf]; omega
              exact ⟨j + 1, own3, numL L s, rfl, by omega, (HI.out.1.trans (x2.mono (by decide))).trans (x3.mono (by decide)), (HI.out.2.1.keep x2 (by decide)).keep x3 (by decide), t2.keep x3 (by decide) (by decide), (HI.out.2.2.1.keep x2 (by decide)).keep x3 (by decide), n3, by have := numL_one L s; have := HI.out.2.2.2.2; omega⟩
            · have hrng := hc.word_range
              obtain ⟨w0, hw0⟩ : ∃ q, q = wr := ⟨_, rfl⟩
              obtain ⟨l, hl⟩ : ∃ l, xs = l := ⟨_, rfl⟩
              rw [hl] at h g hrng
              have X0 := x
              have h0 := h
              have t0 := t
              have g0 := g
              have n0 := n
              have HR := Lib.hid (And.intro HC.out.1.1 (And.intro (by have := HC.out.1.2; omega : c < 18446744073709551616) (And.intro hrng (And.intro (by rw [← hl, HC.out.2]; omega : l.length ≤ 1048576) (by omega : L.length ≤ 4096)))))
              have hshort := t.names.short
              obtain ⟨G, hG⟩ : ∃ G, getF l L 500 c 0 [] = G := ⟨_, rfl⟩
              have hgd : G.1 = 0 → Good G.2.1 := fun h => by rw [← hG] at h ⊢; exact getF_Good hshort h
              have HG := Lib.hid hG
              clear hG x h t g n hshort hrng hl hw0 w0
              by_cases hg : G.1 = 0
              · have HG0 := Lib.hid hg
                have HGD := Lib.hid (hgd hg)
                clear hg hgd
                go_wp2_with (first
                  | (go_at_call 50; have hc := sound_any own5 1 2 3 4 (by constructor <;> decide) w5 p pt 100 c l L h5 t5 HR.out.1 HR.out.2.1 HR.out.2.2.1 HR.out.2.2.2.1 HR.out.2.2.2.2; rw [HG.out] at hc; refine Calls.mono hc ?_; rintro e w6 ⟨own6, x6, rfl⟩; have X6 := X5.trans (x6.mono (by decide)))
                  | (go_at_call 49; have hc := requal_un G.2.1 HGD.out AT AU lT cT lU cU own4 w4 hT4 hU4; rw [show valT (un G.2.1) (.slice AT lT cT) = .agg #[.int .i64 (un G.2.1).kind, .string (un G.2.1).name, .int .i64 (un G.2.1).int, .int .u64 (un G.2.1).re, .int .u64 (un G.2.1).im, .slice AT lT cT] from rfl, show valT (un G.2.1) (.slice AU lU cU) = .agg #[.int .i64 (un G.2.1).kind, .string (un G.2.1).name, .int .i64 (un G.2.1).int, .int .u64 (un G.2.1).re, .int .u64 (un G.2.1).im, .slice AU lU cU] from rfl] at hc; refine Calls.mono hc ?_; rintro e w5 ⟨own5, x5, rfl⟩; have X5 := X4.trans (x5.mono (by decide)); have h5 := h4.keep x5 (by decide); have t5 := t4.keep x5 (by decide) (by decide); have g5 := g4.keep x5 (by decide); have n5 := n4.keep x5 (by decide))
                  | (go_at_call 48; have hc := r4get_new own2 5 6 7 (by decide) (by decide) (by decide) _ ph pa 100 c l L g2 n2 HR.out.1 HR.out.2.1 HR.out.2.2.1 HR.out.2.2.2.1 HR.out.2.2.2.2; rw [HG.out] at hc; refine Calls.mono hc ?_; rintro e w3 ⟨own3, x3, hE⟩; unfold GotEnd at hE; rw [if_pos HG0.out] at hE; obtain ⟨AU, lU, cU, hee, hq3⟩ := hE; obtain rfl : e = .returned (.tuple #[.agg #[.int .i64 (un G.2.1).kind, .string (un G.2.1).name, .int .i64 (un G.2.1).int, .int .u64 (un G.2.1).re, .int .u64 (un G.2.1).im, .slice AU lU cU], .int .i64 0]) := hee; have X3 := X2.trans (x3.mono (by decide)); have h3 := h2.keep x3 (by decide); have t3 := t2.keep x3 (by decide) (by decide); have g3 := g2.keep x3 (by decide); have n3 := n2.keep x3 (by decide); have kT3 := kT2.keep x3 (by decide); obtain ⟨w4, hW4⟩ : ∃ W, w3.alloc (.cells #[.int .i64 (un G.2.1).kind, .string (un G.2.1).name, .int .i64 (un G.2.1).int, .int .u64 (un G.2.1).re, .int .u64 (un G.2.1).im, .slice AU lU cU] 25) = W := ⟨_, rfl⟩; obtain ⟨own4, y4, kU4, x4⟩ := boxV (Ext.refl own3 [] w3) [.int .i64 (un G.2.1).kind, .string (un G.2.1).name, .int .i64 (un G.2.1).int, .int .u64 (un G.2.1).re, .int .u64 (un G.2.1).im, .slice AU lU cU] 25 0 w4 hW4; have X4 := X3.trans (x4.mono (by decide)); have h4 := h3.keep x4 (by decide); have t4 := t3.keep x4 (by decide) (by decide); have g4 := g3.keep x4 (by decide); have n4 := n3.keep x4 (by decide); have kT4 := kT3.keep x4 (by decide); have hU4 := TmS.keep x4 (by decide) _ _ hq3; have hT4 := TmS.keep x4 (by decide) _ _ (TmS.keep x3 (by decide) _ _ hT2); have ct4_0 := kT4.cell 0 rfl; have ct4_1 := kT4.cell 1 rfl; have ct4_2 := kT4.cell 2 rfl; have ct4_3 := kT4.cell 3 rfl; have ct4_4 := kT4.cell 4 rfl; have ct4_5 := kT4.cell 5 rfl; have cu4_0 := kU4.cell 0 rfl; have cu4_1 := kU4.cell 1 rfl; have cu4_2 := kU4.cell 2 rfl; have cu4_3 := kU4.cell 3 rfl; have cu4_4 := kU4.cell 4 rfl; have cu4_5 := kU4.cell 5 rfl)
                  | (go_at_call 42; have hc := sget_new own9 1 2 3 4 (by constructor <;> decide) _ p pt 100 c l L h0 t0 HR.out.1 HR.out.2.1 HR.out.2.2.1 HR.out.2.2.2.1 HR.out.2.2.2.2; rw [HG.out] at hc; refine Calls.mono hc ?_; rintro e w1 ⟨own1, x1, hE⟩; unfold GotEnd at hE; rw [if_pos HG0.out] at hE; obtain ⟨AT, lT, cT, hee, hq1⟩ := hE; obtain rfl : e = .returned (.tuple #[.agg #[.int .i64 (un G.2.1).kind, .string (un G.2.1).name, .int .i64 (un G.2.1).int, .int .u64 (un G.2.1).re, .int .u64 (un G.2.1).im, .slice AT lT cT], .int .i64 0]) := hee; have X1 := X0.trans (x1.mono (by decide)); have h1 := h0.keep x1 (by decide); have t1 := t0.keep x1 (by decide) (by decide); have g1 := g0.keep x1 (by decide); have n1 := n0.keep x1 (by decide); obtain ⟨w2, hW2⟩ : ∃ W, w1.alloc (.cells #[.int .i64 (un G.2.1).kind, .string (un G.2.1).name, .int .i64 (un G.2.1).int, .int .u64 (un G.2.1).re, .int .u64 (un G.2.1).im, .slice AT lT cT] 25) = W := ⟨_, rfl⟩; obtain ⟨own2, y2, kT2, x2⟩ := boxV (Ext.refl own1 [] w1) [.int .i64 (un G.2.1).kind, .string (un G.2.1).name, .int .i64 (un G.2.1).int, .int .u64 (un G.2.1).re, .int .u64 (un G.2.1).im, .slice AT lT cT] 25 0 w2 hW2; have X2 := X1.trans (x2.mono (by decide)); have h2 := h1.keep x2 (by decide); have t2 := t1.keep x2 (by decide) (by decide); have g2 := g1.keep x2 (by decide); have n2 := n1.keep x2 (by decide); have hT2 := TmS.keep x2 (by decide) _ _ hq1; have ct2_0 := kT2.cell 0 rfl; have ct2_1 := kT2.cell 1 rfl; have ct2_2 := kT2.cell 2 rfl; have ct2_3 := kT2.cell 3 rfl; have ct2_4 := kT2.cell 4 rfl; have ct2_5 := kT2.cell 5 rfl)
                  | (go_at_call 25; refine (awake7_any _).mono ?_; rintro e30 w30 ⟨rfl, hb30⟩))
                go_ret
                exact ⟨rfl, (X6.belowStep hb30).below (fun _ _ => rfl) (by decide)⟩
              · have HG0 := Lib.hid hg
                clear hg hgd
                go_wp2_with (first
                  | (go_at_call 50; have hc := sound_any own5 1 2 3 4 (by constructor <;> decide) w5 p pt 100 c l L h5 t5 HR.out.1 HR.out.2.1 HR.out.2.2.1 HR.out.2.2.2.1 HR.out.2.2.2.2; rw [HG.out] at hc; refine Calls.mono hc ?_; rintro e w6 ⟨own6, x6, rfl⟩; have X6 := X5.trans (x6.mono (by decide)))
                  | (go_at_call 49; have hc := requal_zero own4 (w3.alloc (.cells #[.int .i64 0, .string ByteArray.empty, .int .i64 0, .int .u64 0, .int .u64 0, .slice none 0 0] 25)); refine Calls.mono hc ?_; rintro e w5 ⟨own5, x5, rfl⟩; have X5 := X4.trans (x5.mono (by decide)); have h5 := h4.keep x5 (by decide); have t5 := t4.keep x5 (by decide) (by decide); have g5 := g4.keep x5 (by decide); have n5 := n4.keep x5 (by decide))
                  | (go_at_call 48; have hc := r4get_new own2 5 6 7 (by decide) (by decide) (by decide) _ ph pa 100 c l L g2 n2 HR.out.1 HR.out.2.1 HR.out.2.2.1 HR.out.2.2.2.1 HR.out.2.2.2.2; rw [HG.out] at hc; refine Calls.mono hc ?_; rintro e w3 ⟨own3, x3, hE⟩; unfold GotEnd at hE; rw [if_neg HG0.out] at hE; obtain rfl := hE; have X3 := X2.trans (x3.mono (by decide)); have h3 := h2.keep x3 (by decide); have t3 := t2.keep x3 (by decide) (by decide); have g3 := g2.keep x3 (by decide); have n3 := n2.keep x3 (by decide); have kT3 := kT2.keep x3 (by decide); obtain ⟨own4, y4, kU4, x4⟩ := boxV (Ext.refl own3 [] w3) [.int .i64 0, .string ByteArray.empty, .int .i64 0, .int .u64 0, .int .u64 0, .slice none 0 0] 25 0 (w3.alloc (.cells #[.int .i64 0, .string ByteArray.empty, .int .i64 0, .int .u64 0, .int .u64 0, .slice none 0 0] 25)) rfl; have X4 := X3.trans (x4.mono (by decide)); have h4 := h3.keep x4 (by decide); have t4 := t3.keep x4 (by decide) (by decide); have g4 := g3.keep x4 (by decide); have n4 := n3.keep x4 (by decide); have kT4 := kT3.keep x4 (by decide); have ct4_0 := kT4.cell 0 rfl; have ct4_1 := kT4.cell 1 rfl; have ct4_2 := kT4.cell 2 rfl; have ct4_3 := kT4.cell 3 rfl; have ct4_4 := kT4.cell 4 rfl; have ct4_5 := kT4.cell 5 rfl; have cu4_0 := kU4.cell 0 rfl; have cu4_1 := kU4.cell 1 rfl; have cu4_2 := kU4.cell 2 rfl; have cu4_3 := kU4.cell 3 rfl; have cu4_4 := kU4.cell 4 rfl; have cu4_5 := kU4.cell 5 rfl)
                  | (go_at_call 42; have hc := sget_new own9 1 2 3 4 (by constructor <;> decide) _ p pt 100 c l L h0 t0 HR.out.1 HR.out.2.1 HR.out.2.2.1 HR.out.2.2.2.1 HR.out.2.2.2.2; rw [HG.out] at hc; refine Calls.mono hc ?_; rintro e w1 ⟨own1, x1, hE⟩; unfold GotEnd at hE; rw [if_neg HG0.out] at hE; obtain rfl := hE; have X1 := X0.trans (x1.mono (by decide)); have h1 := h0.keep x1 (by decide); have t1 := t0.keep x1 (by decide) (by decide); have g1 := g0.keep x1 (by decide); have n1 := n0.keep x1 (by decide); obtain ⟨own2, y2, kT2, x2⟩ := boxV (Ext.refl own1 [] w1) [.int .i64 0, .string ByteArray.empty, .int .i64 0, .int .u64 0, .int .u64 0, .slice none 0 0] 25 0 (w1.alloc (.cells #[.int .i64 0, .string ByteArray.empty, .int .i64 0, .int .u64 0, .int .u64 0, .slice none 0 0] 25)) rfl; have X2 := X1.trans (x2.mono (by decide)); have h2 := h1.keep x2 (by decide); have t2 := t1.keep x2 (by decide) (by decide); have g2 := g1.keep x2 (by decide); have n2 := n1.keep x2 (by decide); have ct2_0 := kT2.cell 0 rfl; have ct2_1 := kT2.cell 1 rfl; have ct2_2 := kT2.cell 2 rfl; have ct2_3 := kT2.cell 3 rfl; have ct2_4 := kT2.cell 4 rfl; have ct2_5 := kT2.cell 5 rfl)
                  | (go_at_call 25; refine (awake7_any _).mono ?_; rintro e30 w30 ⟨rfl, hb30⟩))
                go_ret
                exact ⟨rfl, (X6.belowStep hb30).below (fun _ _ => rfl) (by decide)⟩

end Go.Proofs.Ytlmcfclonncgbaa
