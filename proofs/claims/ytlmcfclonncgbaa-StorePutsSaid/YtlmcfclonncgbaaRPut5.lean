/- The reference's Put, of a map that is given. -/
import Derived.Test.YtlmcfclonncgbaaRPut4
namespace Go.Proofs.Ytlmcfclonncgbaa
open Go.RowKit
set_option linter.unusedVariables false
set_option linter.unusedSimpArgs false

set_option maxHeartbeats 1000000 in
set_option maxRecDepth 100000 in
theorem r4put_map (own : Nat → Nat) (idh ida idv : Nat) (hids : IdsP idh ida idv) (w : World) (ph pa q : Nat) (most : Int) (t : Tm) (sl : Value) (st : SS) (hT : TmS own w t sl) (hh : RH own idh w ph most st.l) (ha : RAP own ida w pa st.L) (hV : VP own idv w q st.V) (hVl : st.V.length < 800000) :
    Calls Try.prog 39 #[.pointer (some ⟨ph, 0, none⟩), .pointer (some ⟨pa, 0, none⟩), valT t sl, .map (some q)] w (Does own [idh, ida, idv] w fun own' e w' => e = .returned (retC (putR most t st)) ∧ RH own' idh w' ph most (putR most t st).1.l ∧ RAP own' ida w' pa (putR most t st).1.L ∧ VP own' idv w' q (putR most t st).1.V) := by
  obtain ⟨A, len, cap, rfl, _⟩ := hT.args
  have et : valT t (.slice A len cap) = .agg #[.int .i64 t.kind, .string t.name, .int .i64 t.int, .int .u64 t.re, .int .u64 t.im, .slice A len cap] := rfl
  rw [et]
  obtain ⟨W1, hW1⟩ : ∃ W, w.alloc (.cells #[.int .i64 t.kind, .string t.name, .int .i64 t.int, .int .u64 t.re, .int .u64 t.im, .slice A len cap] 25) = W := ⟨_, rfl⟩
  obtain ⟨o1, x1, kT, y1⟩ := boxV (Ext.refl own [idh, ida, idv] w) [.int .i64 t.kind, .string t.name, .int .i64 t.int, .int .u64 t.re, .int .u64 t.im, .slice A len cap] 25 0 W1 hW1
  have hT1 := TmS.keep y1 (by simp) t _ hT
  replace hh := hh.keep y1 (by simp)
  replace ha := ha.keep y1 (by simp)
  replace hV := hV.keep y1 (by simp)
  have hen := eql_map_some q
  have c0 := kT.cell 0 rfl; have c1 := kT.cell 1 rfl; have c2 := kT.cell 2 rfl; have c3 := kT.cell 3 rfl; have c4 := kT.cell 4 rfl; have c5 := kT.cell 5 rfl
  obtain ⟨r, hr⟩ : ∃ r, putR most t st = r := ⟨_, rfl⟩
  rw [hr]
  rw [putR_eq] at hr
  by_cases hm : mayE t = 0
  · obtain ⟨hk, hf, hd, hn⟩ := mayE_zero.1 hm
    rw [if_pos hm] at hr
    have hm' : (mayE t != 0) = false := by simpa using hm
    obtain ⟨R, hR⟩ : ∃ R, putT most (cl t) (-1) st = R := ⟨_, rfl⟩
    rw [hR] at hr
    have HP := Lib.hid hR
    have HK := Lib.hid (And.intro hk hf)
    have HVB := Lib.hid (show st.V.length + nodes (cl t) ≤ 900000 by omega)
    clear hm hk hf hd hn hR hT y1
    by_cases he : R.2.2 = 0
    · rw [if_neg (by simpa using he)] at hr
      subst hr
      have he' : (R.2.2 != 0) = false := by simpa using he
      have HE := Lib.hid he
      clear he
      go_enter Try.func39, Try.ntmps39
      go_wp2_with (first
        | (go_at_call 91; have hc := rput_any idh ida idv hids ph pa q most t HK.out.1 HK.out.2 (.slice A len cap) own2 w2 (-1) st hT2 hh2 ha2 hV2 (by decide) HVB.out; rw [et, HP.out] at hc; refine Calls.mono hc ?_; rintro e w3 ⟨own3, x3, ⟨xx, rfl, hx⟩, g3, n3, V3⟩)
        | (go_at_call 24; have hc := rmay_any t _ o1 _ hT1; rw [et] at hc; refine hc.mono ?_; rintro e w2 ⟨own2, x2, rfl⟩; have kT2 := kT.keep x2 (by simp); have hT2 := TmS.keep x2 (by simp) t _ hT1; have hh2 := hh.keep x2 (by simp); have ha2 := ha.keep x2 (by simp); have hV2 := hV.keep x2 (by simp); have d0 := kT2.cell 0 rfl; have d1 := kT2.cell 1 rfl; have d2 := kT2.cell 2 rfl; have d3 := kT2.cell 3 rfl; have d4 := kT2.cell 4 rfl; have d5 := kT2.cell 5 rfl))
      go_ret2
      exact ⟨own3, (x1.trans (x2.mono (by simp))).trans x3, by rw [hx HE.out]; rfl, g3, n3, V3⟩
    · rw [if_pos (by simpa using he)] at hr
      subst hr
      have he' : (R.2.2 != 0) = true := by simpa using he
      clear he
      go_enter Try.func39, Try.ntmps39
      go_wp2_with (first
        | (go_at_call 91; have hc := rput_any idh ida idv hids ph pa q most t HK.out.1 HK.out.2 (.slice A len cap) own2 w2 (-1) st hT2 hh2 ha2 hV2 (by decide) HVB.out; rw [et, HP.out] at hc; refine Calls.mono hc ?_; rintro e w3 ⟨own3, x3, ⟨xx, rfl, hx⟩, g3, n3, V3⟩)
        | (go_at_call 24; have hc := rmay_any t _ o1 _ hT1; rw [et] at hc; refine hc.mono ?_; rintro e w2 ⟨own2, x2, rfl⟩; have kT2 := kT.keep x2 (by simp); have hT2 := TmS.keep x2 (by simp) t _ hT1; have hh2 := hh.keep x2 (by simp); have ha2 := ha.keep x2 (by simp); have hV2 := hV.keep x2 (by simp); have d0 := kT2.cell 0 rfl; have d1 := kT2.cell 1 rfl; have d2 := kT2.cell 2 rfl; have d3 := kT2.cell 3 rfl; have d4 := kT2.cell 4 rfl; have d5 := kT2.cell 5 rfl))
      go_ret2
      exact ⟨own3, (x1.trans (x2.mono (by simp))).trans x3, rfl, g3, n3, V3⟩
  · rw [if_neg hm] at hr
    subst hr
    have hm' : (mayE t != 0) = true := by simpa using hm
    clear hm hT y1
    go_enter Try.func39, Try.ntmps39
    go_wp2_with (go_at_call 24; have hc := rmay_any t _ o1 _ hT1; rw [et] at hc; refine hc.mono ?_; rintro e w2 ⟨own2, x2, rfl⟩; have kT2 := kT.keep x2 (by simp); have hT2 := TmS.keep x2 (by simp) t _ hT1; have hh2 := hh.keep x2 (by simp); have ha2 := ha.keep x2 (by simp); have hV2 := hV.keep x2 (by simp); have d0 := kT2.cell 0 rfl; have d1 := kT2.cell 1 rfl; have d2 := kT2.cell 2 rfl; have d3 := kT2.cell 3 rfl; have d4 := kT2.cell 4 rfl; have d5 := kT2.cell 5 rfl)
    go_ret2
    exact ⟨own2, x1.trans (x2.mono (by simp)), rfl, hh2, ha2, hV2⟩

end Go.Proofs.Ytlmcfclonncgbaa
