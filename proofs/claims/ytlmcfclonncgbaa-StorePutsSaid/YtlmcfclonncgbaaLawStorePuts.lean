/- The walk of the law StorePuts: any terms, one behind the other, with their variables: each cell, each answer. -/
import Derived.Test.YtlmcfclonncgbaaSame
import Derived.Test.YtlmcfclonncgbaaPk6
import Derived.Test.YtlmcfclonncgbaaPk3
import Derived.Test.YtlmcfclonncgbaaRAtoms
import Derived.Maps.RangeWalk
namespace Go.Proofs.Ytlmcfclonncgbaa
open Go.RowKit
set_option linter.unusedVariables false
set_option linter.unusedSimpArgs false

theorem putR_c {most : Int} {t : Tm} {st S : SS} {c e : Int} (h : putR most t st = (S, c, e)) (he : e ≠ 0) : c = 0 := by
  rw [putR_eq] at h
  split at h
  · split at h
    · simp only [Prod.mk.injEq] at h; exact h.2.1.symm
    · simp only [Prod.mk.injEq] at h; exact absurd h.2.2.symm he
  · simp only [Prod.mk.injEq] at h; exact h.2.1.symm
theorem putR_vl {most : Int} {t : Tm} {st S : SS} {c e : Int} (h : putR most t st = (S, c, e)) : S.V.length ≤ st.V.length + 2000 := by
  rw [putR_eq] at h
  split at h
  · rename_i hm
    have h1 := putT_vl most (cl t) (-1) st
    have h2 := (mayE_zero.1 hm).2.2.2
    split at h <;> simp only [Prod.mk.injEq] at h <;> rw [← h.1] <;> omega
  · simp only [Prod.mk.injEq] at h; rw [← h.1]; omega
set_option maxRecDepth 100000 in
set_option maxHeartbeats 4000000 in
theorem storePuts_walk (A : Option Addr) (len cap : Nat) (ts : List Tm) {w : World} (hL : TmL own0 w ts A len cap) (mo0 : Int) (wm : (Lit.int .i64 mo0).wf = true) (_w : World) :
    Calls Try.prog 5 #[.slice A len cap, .int .i64 mo0] w fun e w' => e = .returned (.bool true) ∧ Below w.heap.size w w' := by
  have hlen := hL.1
  have hle := hL.2.1
  have hmax := hL.2.2.1
  unfold maxLen at hmax
  have hlight := rlight_any ts _ _ _ own0 w hL
  have hmm := @run_makeMap Try.prog
  obtain ⟨mo, hmod, hmo⟩ := mod_nat mo0 9000 (by decide) (by decide)
  obtain ⟨mi, hmi⟩ : ∃ mi : Int, (mo : Int) = mi := ⟨_, rfl⟩
  have hmi0 : 0 ≤ mi := by omega
  rw [hmi] at hmod hmo
  clear hmi
  have HLI := Lib.hid hlight
  have HMO := Lib.hid hmo
  have HMS := Lib.hid (show mostOf mi = mi by unfold mostOf; rw [if_neg (by omega)]; split <;> omega)
  clear hlight hmo wm
  by_cases h8 : 8 < len
  · have h8' : (8 : Int) < (len : Int) := by omega
    go_enter Try.func5, Try.ntmps5
    go_wp2_with (go_at_call 25; refine (awake7_any _).mono ?_; rintro e30 w30 ⟨rfl, hb30⟩)
    go_ret
    exact ⟨rfl, hb30⟩
  · have h8' : (len : Int) ≤ 8 := by omega
    by_cases hli : lightA ts 0 4000 = true
    · rw [hli] at HLI
      have HL := Lib.hid hL
      clear hL hli
      go_enter Try.func5, Try.ntmps5
      go_wp2_with (first
        | (go_at_call 23; refine HLI.out.mono ?_; rintro e0 w0 ⟨own_0, x0, rfl⟩)
        | (go_at_call 26; refine (new_any own_0 1 _ _).mono ?_; rintro e1 w1 ⟨own1, x1, rfl, hlt1, h1⟩; obtain ⟨p, hp⟩ : ∃ p, w0.heap.size = p := ⟨_, rfl⟩; rw [hp] at h1 ⊢)
        | (go_at_call 27; refine (anew_any own1 2 3 _ (by decide)).mono ?_; rintro e2 w2 ⟨own2, pt, x2, rfl, hle2, hlt2, t2⟩)
        | (go_at_call 37; refine (rnew_any own2 5 _ _).mono ?_; rintro e3 w3 ⟨own3, x3, rfl, hlt3, g3⟩; obtain ⟨ph, hph⟩ : ∃ p, w2.heap.size = p := ⟨_, rfl⟩; rw [hph] at g3 ⊢)
        | (go_at_call 38; refine (ranew_any own3 6 _).mono ?_; rintro e4 w4 ⟨own4, pa, x4, rfl, hle4, hlt4, n4⟩; obtain ⟨x5, V5⟩ := MV.new own4 8 w4 Try.prog .i64 .u64 2 34; obtain ⟨pv, hpv⟩ : ∃ q, w4.heap.size = q := ⟨_, rfl⟩; rw [hpv] at x5 V5; obtain ⟨w5, hw5⟩ : ∃ W, w4.alloc (.map #[] 0) = W := ⟨_, rfl⟩; obtain ⟨own5, ho5⟩ : ∃ o, give own4 pv 8 = o := ⟨_, rfl⟩; rw [hw5, ho5] at x5 V5; obtain ⟨x6, U6⟩ := MV.new own5 9 w5 Try.prog .i64 .u64 2 34; obtain ⟨pw, hpw⟩ : ∃ q, w5.heap.size = q := ⟨_, rfl⟩; rw [hpw] at x6 U6; obtain ⟨w6, hw6⟩ : ∃ W, w5.alloc (.map #[] 0) = W := ⟨_, rfl⟩; obtain ⟨own6, ho6⟩ : ∃ o, give own5 pw 9 = o := ⟨_, rfl⟩; rw [hw6, ho6] at x6 U6))
      rw [HMS.out] at h1 g3
      have X6 : Ext own0 own6 [1, 2, 3, 5, 6, 8, 9, 10, 11] w w6 := ((((x0.mono (jds := [1, 2, 3, 5, 6, 8, 9, 10, 11]) (by decide)).trans (x1.mono (by decide))).trans (x2.mono (by decide))).trans ((x3.mono (jds := [1, 2, 3, 5, 6, 8, 9, 10, 11]) (by decide)).trans (x4.mono (by decide)))).trans ((x5.mono (jds := [1, 2, 3, 5, 6, 8, 9, 10, 11]) (by decide)).trans (x6.mono (by decide)))
      have H6 := Lib.hid (And.intro X6 (And.intro ((((h1.keep x2 (by decide)).keep x3 (by decide)).keep x4 (by decide)).keep x5 (by decide) |>.keep x6 (by decide)) (And.intro ((((t2.keep x3 (by decide) (by decide)).keep x4 (by decide) (by decide)).keep x5 (by decide) (by decide)).keep x6 (by decide) (by decide)) (And.intro (V5.keep x6 (by decide)) (And.intro (((g3.keep x4 (by decide)).keep x5 (by decide)).keep x6 (by decide)) (And.intro ((n4.keep x5 (by decide)).keep x6 (by decide)) U6))))))
      clear x0 x1 x2 x3 x4 x5 x6 X6 h1 t2 V5 g3 n4 U6 hlt1 hle2 hlt2 hlt3 hle4 hlt4
      go_loopw [42] (fun v wr => ∃ (k : Nat) (own : Nat → Nat) (st : SS), v = .int .i64 k ∧ k ≤ len ∧ Ext own0 own [1, 2, 3, 5, 6, 8, 9, 10, 11] w wr ∧ HP own 1 wr p mi st.l ∧ TabP own 2 3 wr pt st.L ∧ VP own 8 wr pv st.V ∧ RH own 5 wr ph mi st.l ∧ RAP own 6 wr pa st.L ∧ VP own 9 wr pw st.V ∧ st.V.length ≤ k * 2000) (fun v _ => len - (intOf v).toNat)
      case atStart => exact ⟨0, own6, ⟨[], names0, []⟩, rfl, Nat.zero_le _, H6.out.1, H6.out.2.1, H6.out.2.2.1, H6.out.2.2.2.1, H6.out.2.2.2.2.1, H6.out.2.2.2.2.2.1, H6.out.2.2.2.2.2.2, by simp⟩
      case round =>
        obtain ⟨k, own, st, rfl, hk, x, h, tt, V, g, n, U, hvl⟩ := hrel
        by_cases hlt : k < len
        · have hLk := HL.out.keep x (by decide)
          obtain ⟨b, o, rfl⟩ := hLk.addr (by omega)
          obtain ⟨t, sl, ht, hT, c0, c1, c2, c3, c4, c5⟩ := hLk.at k hlt
          obtain ⟨At, lt, ct, rfl, _⟩ := hT.args
          have et : valT t (.slice At lt ct) = .agg #[.int .i64 t.kind, .string t.name, .int .i64 t.int, .int .u64 t.re, .int .u64 t.im, .slice At lt ct] := rfl
          obtain ⟨W1, hW1⟩ : ∃ W, wr.alloc (.cells #[.int .i64 t.kind, .string t.name, .int .i64 t.int, .int .u64 t.re, .int .u64 t.im, .slice At lt ct] 25) = W := ⟨_, rfl⟩
          obtain ⟨o1, X1, kT, y1⟩ := boxV x [.int .i64 t.kind, .string t.name, .int .i64 t.int, .int .u64 t.re, .int .u64 t.im, .slice At lt ct] 25 0 W1 hW1
          obtain ⟨⟨S, c, e⟩, hR⟩ : ∃ R, putR mi t st = R := ⟨_, rfl⟩
          have HI := Lib.hid (And.intro (TmS.keep y1 (by simp) t _ hT) (And.intro (h.keep y1 (by simp)) (And.intro (tt.keep y1 (by simp) (by simp)) (And.intro (V.keep y1 (by simp)) (And.intro (show st.V.length < 900000 by omega) (And.intro (show st.V.length < 800000 by omega) X1))))))
          have HG := Lib.hid (And.intro (g.keep y1 (by simp)) (And.intro (n.keep y1 (by simp)) (And.intro (U.keep y1 (by simp)) hvl)))
          have HK := Lib.hid (And.intro hlt hvl)
          have d0 := kT.cell 0 rfl
          have d1 := kT.cell 1 rfl
          have d2 := kT.cell 2 rfl
          have d3 := kT.cell 3 rfl
          have d4 := kT.cell 4 rfl
          have d5 := kT.cell 5 rfl
          have HR := Lib.hid hR
          clear x h tt V g n U hvl X1 y1 hT ht hLk hR
          by_cases he : e = 0
          · subst he
            go_wp2_with (first
              | (go_at_call 39; have hc := r4put_map own2 5 6 9 (by constructor <;> decide) w2 ph pa pw mi t (.slice At lt ct) st hT2 g2 n2 U2 HI.out.2.2.2.2.2.1; rw [et, HR.out] at hc; refine Calls.mono hc ?_; rintro e3 w3 ⟨own3, x3, (rfl : e3 = .returned (.tuple #[.int .u64 c, .int .i64 0])), g3, n3, U3⟩; have X3 := HI.out.2.2.2.2.2.2.trans ((x2.mono (jds := [1, 2, 3, 5, 6, 8, 9, 10, 11]) (by decide)).trans (x3.mono (by decide))); replace h2 : HP own2 1 w2 p mi S.l := h2; replace t2 : TabP own2 2 3 w2 pt S.L := t2; replace V2 : VP own2 8 w2 pv S.V := V2; replace g3 : RH own3 5 w3 ph mi S.l := g3; replace n3 : RAP own3 6 w3 pa S.L := n3; replace U3 : VP own3 9 w3 pw S.V := U3; have h3 := h2.keep x3 (by decide); have t3 := t2.keep x3 (by decide) (by decide); have V3 := V2.keep x3 (by decide); have HQ := Lib.hid (And.intro X3 (And.intro h3 (And.intro t3 (And.intro V3 (And.intro g3 (And.intro n3 U3)))))); clear X3 h2 h3 t2 t3 V2 V3 g3 n3 U3 g2 n2 U2 kT2 hT2 x2 x3 hv2 hc)
              | (go_at_call 28; have hc := put_any o1 1 2 3 8 (by constructor <;> decide) W1 p pt (some pv) mi t (.slice At lt ct) st HI.out.1 HI.out.2.1 HI.out.2.2.1 (Or.inr ⟨_, rfl, HI.out.2.2.2.1⟩) HI.out.2.2.2.2.1; rw [et, HR.out] at hc; refine Calls.mono hc ?_; rintro e2 w2 ⟨own2, x2, (rfl : e2 = .returned (.tuple #[.int .u64 c, .int .i64 0])), h2, t2, hv2⟩; have V2 := hv2 _ rfl; have kT2 := kT.keep x2 (by decide); have g2 := HG.out.1.keep x2 (by decide); have n2 := HG.out.2.1.keep x2 (by decide); have U2 := HG.out.2.2.1.keep x2 (by decide); have hT2 := TmS.keep x2 (by decide) t _ HI.out.1; have d0 := kT2.cell 0 rfl; have d1 := kT2.cell 1 rfl; have d2 := kT2.cell 2 rfl; have d3 := kT2.cell 3 rfl; have d4 := kT2.cell 4 rfl; have d5 := kT2.cell 5 rfl))
            have HLV := Lib.hid (fun n => (HQ.out.2.2.2.1.dr n).len Try.underlying52)
            have hlen := HQ.out.2.2.2.1.len (w := w3) Try.underlying52
            have hlv : ∀ n ty, (Builtin.len_ #[52] ty #[.map (some pv)]).run Try.prog (w3.drewN n) = .ok (.int .i64 (S.V.length : Nat)) (w3.drewN n) := fun n ty => (HQ.out.2.2.2.1.dr n).len Try.underlying52 ty
            have hlw : ∀ n ty, (Builtin.len_ #[52] ty #[.map (some pw)]).run Try.prog (w3.drewN n) = .ok (.int .i64 (S.V.length : Nat)) (w3.drewN n) := fun n ty => (HQ.out.2.2.2.2.2.2.dr n).len Try.underlying52 ty
            clear HLV hlen
            have hsame := fun n => same7_any own3 1 5 (w3.drewN n) p ph mi mi S.l (HQ.out.2.1.dr n) (HQ.out.2.2.2.2.1.dr n)
            have halen := fun n => alen_any own3 2 3 pt S.L (w3.drewN n) (HQ.out.2.2.1.dr n)
            obtain ⟨va, ka, kra, _⟩ := id HQ.out.2.2.2.2.2.1
            obtain ⟨A9, c9, rfl, _⟩ := kra.form
            have a0 := ka.cell 0 rfl
            have HSM := Lib.hid hsame
            have HAL := Lib.hid halen
            clear hsame halen ka kra
            go_quiet ((first | (go_at_call 40; first | exact Calls.quiet_of (HSM.out _) | exact quiet_gen2 (HSM.out _) (fun n => by first | exact ⟨n, rfl⟩ | exact ⟨_, World.drewN_drewN _ _ _⟩ | exact ⟨_, (World.drewN_drewN _ _ _).trans (congrArg (World.drewN _) (Nat.add_assoc _ _ _))⟩)) | (go_at_call 41; first | exact Calls.quiet_of (HAL.out _) | exact quiet_gen2 (HAL.out _) (fun n => by first | exact ⟨n, rfl⟩ | exact ⟨_, World.drewN_drewN _ _ _⟩ | exact ⟨_, (World.drewN_drewN _ _ _).trans (congrArg (World.drewN _) (Nat.add_assoc _ _ _))⟩))))
            obtain ⟨w4, hw4⟩ : ∃ W, w3.drewN nq = W := ⟨_, rfl⟩
            have x4 := (Ext.refl own3 [] w3).drewN nq
            rw [hw4] at x4 ⊢
            have H4 := Lib.hid (And.intro (HQ.out.1.trans (x4.mono (by decide))) (And.intro (HQ.out.2.1.keep x4 (by decide)) (And.intro (HQ.out.2.2.1.keep x4 (by decide) (by decide)) (And.intro (HQ.out.2.2.2.1.keep x4 (by decide)) (And.intro (HQ.out.2.2.2.2.1.keep x4 (by decide)) (And.intro (HQ.out.2.2.2.2.2.1.keep x4 (by decide)) (HQ.out.2.2.2.2.2.2.keep x4 (by decide))))))))
            clear hlv hlw a0 x4 HSM HAL HQ hw4
            obtain ⟨DW, hmw, hvm⟩ := id H4.out.2.2.2.2.2.2
            have HMW := Lib.hid hmw.1
            have HVM := Lib.hid hvm
            obtain ⟨rr, hrr⟩ : ∃ r, w4.heap.size = r := ⟨_, rfl⟩
            clear hmw hvm
            go_wp2_with (at_range; refine wpList_range_own _ rfl _ 52 rfl 2 34 (Go.Maps.int_keyed Try.underlying2) Try.underlying52 _ pw S.V.length DW rfl HMW.out ?_; intro w5 hrg0 hg0 hs0)
            go_frame
            rw [hrr] at hrg0 hs0 ⊢
            have x5 : Ext own3 (give own3 rr 11) [] w4 w5 := ((Ext.refl own3 [] w4).grown hg0 (fun k hk => by cases hk)).give rr 11 (by omega)
            obtain ⟨own5, ho5⟩ : ∃ o, give own3 rr 11 = o := ⟨_, rfl⟩
            have hor : own5 rr = 11 := by rw [← ho5]; exact give_same _ _ _
            rw [ho5] at x5
            have H5 := Lib.hid (And.intro (H4.out.1.trans (x5.mono (by decide))) (And.intro (H4.out.2.1.keep x5 (by decide)) (And.intro (H4.out.2.2.1.keep x5 (by decide) (by decide)) (And.intro (H4.out.2.2.2.1.keep x5 (by decide)) (And.intro (H4.out.2.2.2.2.1.keep x5 (by decide)) (And.intro (H4.out.2.2.2.2.2.1.keep x5 (by decide)) (H4.out.2.2.2.2.2.2.keep x5 (by decide))))))))
            have HOR := Lib.hid (And.intro hor (show rr < w5.heap.size by omega))
            clear hg0 hs0 x5 ho5 hor
            go_loopw [17] (fun _ wr2 => ∃ (left : Lit → Bool) (cnt : Nat), wr2.ranges Try.prog 2 (plainElem Try.prog 34) pw rr S.V.length DW left cnt ∧ Ext own5 own5 [11] w5 wr2) (fun _ wr2 => wr2.rangeLeft pw rr)
            case atStart => exact ⟨_, _, hrg0, Ext.refl _ _ _⟩
            case round =>
              obtain ⟨left, cnt, hrg, y5⟩ := hrel
              go_wp2_with (at_next; refine wpList_next_ranges_ii _ rfl _ rfl 2 34 .i64 .u64 (Go.Maps.int_keyed Try.underlying2) Try.underlying2 Try.underlying34 pw rr S.V.length _ _ _ rfl hrg ?_ ?_)
              · intro hc0 hl0
                go_wp2_with fail
                go_roundw
                case measure => simp [intOf]; omega
                have hd : 11 ∉ ([11] : List Nat) → False := by decide
                exact ⟨k + 1, own5, S, by go_num, by omega, H5.out.1.trans (y5.mono (by decide)), H5.out.2.1.keep y5 (by decide), H5.out.2.2.1.keep y5 (by decide) (by decide), H5.out.2.2.2.1.keep y5 (by decide), H5.out.2.2.2.2.1.keep y5 (by decide), H5.out.2.2.2.2.2.1.keep y5 (by decide), H5.out.2.2.2.2.2.2.keep y5 (by decide), by have := putR_vl HR.out; have := HK.out.2; omega⟩
              · intro x c9 w6 cnt1 hwx hwc hlx hat hrg1 hlt9 hg1 hs1 hen
                have y6 := y5.grown hg1 (fun j hj hlt => by cases hj; rw [HOR.out.1]; simp)
                have hlk := (H5.out.2.2.2.1.keep y6 (by decide)).at_ (t := 52) Try.underlying52 Try.underlying2 Try.underlying34 (zero_cell w6) x hwx
                have hat2 := hat (.lit (.int .u64 0))
                rw [HVM.out.val] at hat2
                simp only [DataW.lit.injEq, Lit.int.injEq, true_and] at hat2
                rw [hat2] at hlk
                have HL6 := Lib.hid (And.intro hrg (And.intro hrg1 (And.intro hlt9 y6)))
                clear hat hat2 hrg hrg1 hlt9 y6 y5 hg1
                go_wp2_with fail
                go_roundw
                case rel => exact ⟨_, cnt1, HL6.out.2.1, HL6.out.2.2.2⟩
                case measure => rw [HL6.out.2.1.left_eq, HL6.out.1.left_eq]; exact HL6.out.2.2.1
          · obtain rfl := putR_c HR.out he
            have he1 : (e == 0) = false := by simpa using he
            have he2 : (e != 0) = true := by simpa using he
            clear he
            go_wp2_with (first
              | (go_at_call 39; have hc := r4put_map own2 5 6 9 (by constructor <;> decide) w2 ph pa pw mi t (.slice At lt ct) st hT2 g2 n2 U2 HI.out.2.2.2.2.2.1; rw [et, HR.out] at hc; refine Calls.mono hc ?_; rintro e3 w3 ⟨own3, x3, (rfl : e3 = .returned (.tuple #[.int .u64 0, .int .i64 e])), g3, n3, U3⟩; have X3 := HI.out.2.2.2.2.2.2.trans ((x2.mono (jds := [1, 2, 3, 5, 6, 8, 9, 10, 11]) (by decide)).trans (x3.mono (by decide))); replace h2 : HP own2 1 w2 p mi S.l := h2; replace t2 : TabP own2 2 3 w2 pt S.L := t2; replace V2 : VP own2 8 w2 pv S.V := V2; replace g3 : RH own3 5 w3 ph mi S.l := g3; replace n3 : RAP own3 6 w3 pa S.L := n3; replace U3 : VP own3 9 w3 pw S.V := U3; have h3 := h2.keep x3 (by decide); have t3 := t2.keep x3 (by decide) (by decide); have V3 := V2.keep x3 (by decide); have HQ := Lib.hid (And.intro X3 (And.intro h3 (And.intro t3 (And.intro V3 (And.intro g3 (And.intro n3 U3)))))); clear X3 h2 h3 t2 t3 V2 V3 g3 n3 U3 g2 n2 U2 kT2 hT2 x2 x3 hv2 hc)
              | (go_at_call 28; have hc := put_any o1 1 2 3 8 (by constructor <;> decide) W1 p pt (some pv) mi t (.slice At lt ct) st HI.out.1 HI.out.2.1 HI.out.2.2.1 (Or.inr ⟨_, rfl, HI.out.2.2.2.1⟩) HI.out.2.2.2.2.1; rw [et, HR.out] at hc; refine Calls.mono hc ?_; rintro e2 w2 ⟨own2, x2, (rfl : e2 = .returned (.tuple #[.int .u64 0, .int .i64 e])), h2, t2, hv2⟩; have V2 := hv2 _ rfl; have kT2 := kT.keep x2 (by decide); have g2 := HG.out.1.keep x2 (by decide); have n2 := HG.out.2.1.keep x2 (by decide); have U2 := HG.out.2.2.1.keep x2 (by decide); have hT2 := TmS.keep x2 (by decide) t _ HI.out.1; have d0 := kT2.cell 0 rfl; have d1 := kT2.cell 1 rfl; have d2 := kT2.cell 2 rfl; have d3 := kT2.cell 3 rfl; have d4 := kT2.cell 4 rfl; have d5 := kT2.cell 5 rfl))
            have HLV := Lib.hid (fun n => (HQ.out.2.2.2.1.dr n).len Try.underlying52)
            have hlen := HQ.out.2.2.2.1.len (w := w3) Try.underlying52
            have hlv : ∀ n ty, (Builtin.len_ #[52] ty #[.map (some pv)]).run Try.prog (w3.drewN n) = .ok (.int .i64 (S.V.length : Nat)) (w3.drewN n) := fun n ty => (HQ.out.2.2.2.1.dr n).len Try.underlying52 ty
            have hlw : ∀ n ty, (Builtin.len_ #[52] ty #[.map (some pw)]).run Try.prog (w3.drewN n) = .ok (.int .i64 (S.V.length : Nat)) (w3.drewN n) := fun n ty => (HQ.out.2.2.2.2.2.2.dr n).len Try.underlying52 ty
            clear HLV hlen
            have hsame := fun n => same7_any own3 1 5 (w3.drewN n) p ph mi mi S.l (HQ.out.2.1.dr n) (HQ.out.2.2.2.2.1.dr n)
            have halen := fun n => alen_any own3 2 3 pt S.L (w3.drewN n) (HQ.out.2.2.1.dr n)
            obtain ⟨va, ka, kra, _⟩ := id HQ.out.2.2.2.2.2.1
            obtain ⟨A9, c9, rfl, _⟩ := kra.form
            have a0 := ka.cell 0 rfl
            have HSM := Lib.hid hsame
            have HAL := Lib.hid halen
            clear hsame halen ka kra
            go_quiet ((first | (go_at_call 40; first | exact Calls.quiet_of (HSM.out _) | exact quiet_gen2 (HSM.out _) (fun n => by first | exact ⟨n, rfl⟩ | exact ⟨_, World.drewN_drewN _ _ _⟩ | exact ⟨_, (World.drewN_drewN _ _ _).trans (congrArg (World.drewN _) (Nat.add_assoc _ _ _))⟩)) | (go_at_call 41; first | exact Calls.quiet_of (HAL.out _) | exact quiet_gen2 (HAL.out _) (fun n => by first | exact ⟨n, rfl⟩ | exact ⟨_, World.drewN_drewN _ _ _⟩ | exact ⟨_, (World.drewN_drewN _ _ _).trans (congrArg (World.drewN _) (Nat.add_assoc _ _ _))⟩))))
            obtain ⟨w4, hw4⟩ : ∃ W, w3.drewN nq = W := ⟨_, rfl⟩
            have x4 := (Ext.refl own3 [] w3).drewN nq
            rw [hw4] at x4 ⊢
            have H4 := Lib.hid (And.intro (HQ.out.1.trans (x4.mono (by decide))) (And.intro (HQ.out.2.1.keep x4 (by decide)) (And.intro (HQ.out.2.2.1.keep x4 (by decide) (by decide)) (And.intro (HQ.out.2.2.2.1.keep x4 (by decide)) (And.intro (HQ.out.2.2.2.2.1.keep x4 (by decide)) (And.intro (HQ.out.2.2.2.2.2.1.keep x4 (by decide)) (HQ.out.2.2.2.2.2.2.keep x4 (by decide))))))))
            clear hlv hlw a0 x4 HSM HAL HQ hw4
            obtain ⟨DW, hmw, hvm⟩ := id H4.out.2.2.2.2.2.2
            have HMW := Lib.hid hmw.1
            have HVM := Lib.hid hvm
            obtain ⟨rr, hrr⟩ : ∃ r, w4.heap.size = r := ⟨_, rfl⟩
            clear hmw hvm
            go_wp2_with (at_range; refine wpList_range_own _ rfl _ 52 rfl 2 34 (Go.Maps.int_keyed Try.underlying2) Try.underlying52 _ pw S.V.length DW rfl HMW.out ?_; intro w5 hrg0 hg0 hs0)
            go_frame
            rw [hrr] at hrg0 hs0 ⊢
            have x5 : Ext own3 (give own3 rr 11) [] w4 w5 := ((Ext.refl own3 [] w4).grown hg0 (fun k hk => by cases hk)).give rr 11 (by omega)
            obtain ⟨own5, ho5⟩ : ∃ o, give own3 rr 11 = o := ⟨_, rfl⟩
            have hor : own5 rr = 11 := by rw [← ho5]; exact give_same _ _ _
            rw [ho5] at x5
            have H5 := Lib.hid (And.intro (H4.out.1.trans (x5.mono (by decide))) (And.intro (H4.out.2.1.keep x5 (by decide)) (And.intro (H4.out.2.2.1.keep x5 (by decide) (by decide)) (And.intro (H4.out.2.2.2.1.keep x5 (by decide)) (And.intro (H4.out.2.2.2.2.1.keep x5 (by decide)) (And.intro (H4.out.2.2.2.2.2.1.keep x5 (by decide)) (H4.out.2.2.2.2.2.2.keep x5 (by decide))))))))
            have HOR := Lib.hid (And.intro hor (show rr < w5.heap.size by omega))
            clear hg0 hs0 x5 ho5 hor
            go_loopw [17] (fun _ wr2 => ∃ (left : Lit → Bool) (cnt : Nat), wr2.ranges Try.prog 2 (plainElem Try.prog 34) pw rr S.V.length DW left cnt ∧ Ext own5 own5 [11] w5 wr2) (fun _ wr2 => wr2.rangeLeft pw rr)
            case atStart => exact ⟨_, _, hrg0, Ext.refl _ _ _⟩
            case round =>
              obtain ⟨left, cnt, hrg, y5⟩ := hrel
              go_wp2_with (at_next; refine wpList_next_ranges_ii _ rfl _ rfl 2 34 .i64 .u64 (Go.Maps.int_keyed Try.underlying2) Try.underlying2 Try.underlying34 pw rr S.V.length _ _ _ rfl hrg ?_ ?_)
              · intro hc0 hl0
                go_wp2_with fail
                go_roundw
                case measure => simp [intOf]; omega
                have hd : 11 ∉ ([11] : List Nat) → False := by decide
                exact ⟨k + 1, own5, S, by go_num, by omega, H5.out.1.trans (y5.mono (by decide)), H5.out.2.1.keep y5 (by decide), H5.out.2.2.1.keep y5 (by decide) (by decide), H5.out.2.2.2.1.keep y5 (by decide), H5.out.2.2.2.2.1.keep y5 (by decide), H5.out.2.2.2.2.2.1.keep y5 (by decide), H5.out.2.2.2.2.2.2.keep y5 (by decide), by have := putR_vl HR.out; have := HK.out.2; omega⟩
              · intro x c9 w6 cnt1 hwx hwc hlx hat hrg1 hlt9 hg1 hs1 hen
                have y6 := y5.grown hg1 (fun j hj hlt => by cases hj; rw [HOR.out.1]; simp)
                have hlk := (H5.out.2.2.2.1.keep y6 (by decide)).at_ (t := 52) Try.underlying52 Try.underlying2 Try.underlying34 (zero_cell w6) x hwx
                have hat2 := hat (.lit (.int .u64 0))
                rw [HVM.out.val] at hat2
                simp only [DataW.lit.injEq, Lit.int.injEq, true_and] at hat2
                rw [hat2] at hlk
                have HL6 := Lib.hid (And.intro hrg (And.intro hrg1 (And.intro hlt9 y6)))
                clear hat hat2 hrg hrg1 hlt9 y6 y5 hg1
                go_wp2_with fail
                go_roundw
                case rel => exact ⟨_, cnt1, HL6.out.2.1, HL6.out.2.2.2⟩
                case measure => rw [HL6.out.2.1.left_eq, HL6.out.1.left_eq]; exact HL6.out.2.2.1
        · clear h tt V g n U hvl
          have hkl : k = len := by omega
          subst hkl
          go_wp2_with (go_at_call 25; refine (awake7_any _).mono ?_; rintro e30 w30 ⟨rfl, hb30⟩)
          go_ret
          exact ⟨rfl, (x.belowStep hb30).below (fun _ _ => rfl) (by decide)⟩
    · rw [show lightA ts 0 4000 = false from by simpa using hli] at HLI
      go_enter Try.func5, Try.ntmps5
      go_wp2_with (first
        | (go_at_call 23; refine HLI.out.mono ?_; rintro e0 w0 ⟨own_0, x0, rfl⟩)
        | (go_at_call 25; refine (awake7_any _).mono ?_; rintro e30 w30 ⟨rfl, hb30⟩))
      go_ret
      exact ⟨rfl, (x0.belowStep hb30).below (fun _ _ => rfl) (by decide)⟩

end Go.Proofs.Ytlmcfclonncgbaa
