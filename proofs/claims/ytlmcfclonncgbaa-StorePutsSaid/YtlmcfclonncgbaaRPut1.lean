/- The reference's put: all but compounds. -/
import Derived.Test.YtlmcfclonncgbaaRGet4
import Derived.Test.YtlmcfclonncgbaaPk6
import Derived.Test.YtlmcfclonncgbaaPk8
namespace Go.Proofs.Ytlmcfclonncgbaa
open Go.RowKit
set_option linter.unusedVariables false
set_option linter.unusedSimpArgs false

/-- What put answers and leaves: the cell counts where there is no error. -/
def RPutEnd (own : Nat → Nat) (w : World) (idh ida idv ph pa q : Nat) (most : Int) (r : SS × Int × Int) (e : Ending) : Prop :=
  (∃ x : Int, e = .returned (.tuple #[.int .u64 x, .int .i64 r.2.2]) ∧ (r.2.2 = 0 → x = r.2.1)) ∧ RH own idh w ph most r.1.l ∧ RAP own ida w pa r.1.L ∧ VP own idv w q r.1.V
/-- The owners are of one each. -/
structure IdsP (idh ida idv : Nat) : Prop where
  h0 : idh ≠ 0
  a0 : ida ≠ 0
  v0 : idv ≠ 0
  ha : idh ≠ ida
  hv : idh ≠ idv
  av : ida ≠ idv
set_option maxHeartbeats 1000000 in
set_option maxRecDepth 100000 in
theorem rput_atom (own : Nat → Nat) (idh ida idv : Nat) (hids : IdsP idh ida idv) (w : World) (ph pa q : Nat) (most at_ : Int) (s : ByteArray) (n re im : Int) (A : Option Addr) (len cap : Nat) (st : SS) (hh : RH own idh w ph most st.l) (ha : RAP own ida w pa st.L) (hV : VP own idv w q st.V) :
    Calls Try.prog 91 #[.pointer (some ⟨ph, 0, none⟩), .pointer (some ⟨pa, 0, none⟩), .agg #[.int .i64 2, .string s, .int .i64 n, .int .u64 re, .int .u64 im, .slice A len cap], .map (some q), .int .i64 at_] w (Does own [idh, ida, idv] w fun own' e w' => RPutEnd own' w' idh ida idv ph pa q most (putT most (.atom s) at_ st) e) := by
  obtain ⟨W1, hW1⟩ : ∃ W, w.alloc (.cells #[.int .i64 2, .string s, .int .i64 n, .int .u64 re, .int .u64 im, .slice A len cap] 25) = W := ⟨_, rfl⟩
  obtain ⟨o1, x1, kT, y1⟩ := boxV (Ext.refl own [idh, ida, idv] w) [.int .i64 2, .string s, .int .i64 n, .int .u64 re, .int .u64 im, .slice A len cap] 25 0 W1 hW1
  replace hh := hh.keep y1 (by simp)
  replace ha := ha.keep y1 (by simp)
  replace hV := hV.keep y1 (by simp)
  have hI := hids
  obtain ⟨i1, i2, i3, i4, i5, i6⟩ := hids
  have hll := hh.len
  have c0 := kT.cell 0 rfl; have c1 := kT.cell 1 rfl; have c2 := kT.cell 2 rfl; have c3 := kT.cell 3 rfl; have c4 := kT.cell 4 rfl; have c5 := kT.cell 5 rfl
  have hfew := ha.names.few
  have hN := numN_few s hfew
  have hnu := ranumber_any o1 ida pa s st.L W1 ha
  obtain ⟨r, hr⟩ : ∃ r, putT most (.atom s) at_ st = r := ⟨_, rfl⟩
  rw [hr]
  simp only [putT] at hr
  generalize numN st.L s = N at *
  generalize numE st.L s = E at *
  generalize numL st.L s = LL at *
  subst hr
  have hwN : IntKind.u64.wrap N = N := by rw [wrap_u64]; omega
  have HNU := Lib.hid hnu
  by_cases hE : E = 0
  · subst hE
    go_enter Try.func91, Try.ntmps91
    go_wp2_with (first
      | (go_at_call 47; refine HNU.out.mono ?_; rintro e w2 ⟨own2, x2, rfl, n2⟩)
      | (go_at_call 85; refine (rmake_any 2 N _ (by decide) (by decide) (by omega) (by omega)).mono ?_; rintro e w9 ⟨rfl, hw9⟩; rw [hw9]; clear hw9))
    go_ret2
    exact ⟨own2, x1.trans (x2.mono (by simp)), ⟨_, rfl, fun _ => rfl⟩, hh.keep x2 (by simpa using i4), n2, hV.keep x2 (by simpa using Ne.symm i6)⟩
  · have hE' : (E != 0) = true := by simpa using hE
    have HE := Lib.hid hE
    clear hE
    go_enter Try.func91, Try.ntmps91
    go_wp2_with (first
      | (go_at_call 47; refine HNU.out.mono ?_; rintro e w2 ⟨own2, x2, rfl, n2⟩))
    go_ret2
    exact ⟨own2, x1.trans (x2.mono (by simp)), ⟨_, rfl, fun h => absurd h HE.out⟩, hh.keep x2 (by simpa using i4), n2, hV.keep x2 (by simpa using Ne.symm i6)⟩
set_option maxHeartbeats 1000000 in
set_option maxRecDepth 100000 in
theorem rput_int (own : Nat → Nat) (idh ida idv : Nat) (hids : IdsP idh ida idv) (w : World) (ph pa q : Nat) (most at_ : Int) (s : ByteArray) (n re im : Int) (A : Option Addr) (len cap : Nat) (st : SS) (hh : RH own idh w ph most st.l) (ha : RAP own ida w pa st.L) (hV : VP own idv w q st.V) (hn0 : -9223372036854775808 ≤ n) (hn1 : n ≤ 9223372036854775807) :
    Calls Try.prog 91 #[.pointer (some ⟨ph, 0, none⟩), .pointer (some ⟨pa, 0, none⟩), .agg #[.int .i64 3, .string s, .int .i64 n, .int .u64 re, .int .u64 im, .slice A len cap], .map (some q), .int .i64 at_] w (Does own [idh, ida, idv] w fun own' e w' => RPutEnd own' w' idh ida idv ph pa q most (putT most (.int n) at_ st) e) := by
  obtain ⟨W1, hW1⟩ : ∃ W, w.alloc (.cells #[.int .i64 3, .string s, .int .i64 n, .int .u64 re, .int .u64 im, .slice A len cap] 25) = W := ⟨_, rfl⟩
  obtain ⟨o1, x1, kT, y1⟩ := boxV (Ext.refl own [idh, ida, idv] w) [.int .i64 3, .string s, .int .i64 n, .int .u64 re, .int .u64 im, .slice A len cap] 25 0 W1 hW1
  replace hh := hh.keep y1 (by simp)
  replace ha := ha.keep y1 (by simp)
  replace hV := hV.keep y1 (by simp)
  have hI := hids
  obtain ⟨i1, i2, i3, i4, i5, i6⟩ := hids
  have hll := hh.len
  have c0 := kT.cell 0 rfl; have c1 := kT.cell 1 rfl; have c2 := kT.cell 2 rfl; have c3 := kT.cell 3 rfl; have c4 := kT.cell 4 rfl; have c5 := kT.cell 5 rfl
  have hsm := fun w => rsmall_any n w hn0 hn1
  obtain ⟨r, hr⟩ : ∃ r, putT most (.int n) at_ st = r := ⟨_, rfl⟩
  rw [hr]
  simp only [putT] at hr
  by_cases hs : isSmall n
  · rw [if_pos hs] at hr
    simp only [if_pos hs, decide_eq_true hs] at hsm
    subst hr
    have HSM := Lib.hid hsm
    clear hs hsm
    go_enter Try.func91, Try.ntmps91
    go_wp2_with (first
      | (go_at_call 30; refine (HSM.out _).mono ?_; rintro e w9 ⟨rfl, hw9⟩; rw [hw9]; clear hw9))
    go_ret2
    exact ⟨o1, x1, ⟨_, rfl, fun _ => rfl⟩, hh, ha, hV⟩
  · rw [if_neg hs] at hr
    simp only [if_neg hs, decide_eq_false hs] at hsm
    have HSM := Lib.hid hsm
    have hu : IntKind.u64.wrap n = u64 n := by rw [wrap_u64]; rfl
    have hwl : IntKind.u64.wrap (st.l.length : Int) = st.l.length := by rw [wrap_u64]; omega
    generalize u64 n = u at *
    unfold wordsT at hr
    by_cases hroom : (st.l.length : Int) < most
    · rw [pushWs_room most [u] st.l (by simp; omega)] at hr
      simp only [if_true] at hr
      subst hr
      clear hs hsm
      go_enter Try.func91, Try.ntmps91
      go_wp2_with (first
        | (go_at_call 30; refine (HSM.out _).mono ?_; rintro e w9 ⟨rfl, hw9⟩; rw [hw9]; clear hw9)
        | (go_at_call 45; refine (rpush_room o1 idh ph most u st.l W1 hh (by omega)).mono ?_; rintro e w2 ⟨own2, x2, rfl, g2⟩)
        | (go_at_call 85; refine (rmake_any 4 (st.l.length : Int) _ (by decide) (by decide) (by omega) (by omega)).mono ?_; rintro e w9 ⟨rfl, hw9⟩; rw [hw9]; clear hw9))
      go_ret2
      exact ⟨own2, x1.trans (x2.mono (by simp)), ⟨_, rfl, fun _ => rfl⟩, g2, ha.keep x2 (by simpa using Ne.symm i4), hV.keep x2 (by simpa using Ne.symm i5)⟩
    · have hpw : pushWs most st.l [u] = (st.l, false) := by unfold pushWs; rw [if_neg hroom]
      rw [hpw] at hr
      simp only [Bool.false_eq_true, if_false] at hr
      subst hr
      clear hs hsm hpw
      go_enter Try.func91, Try.ntmps91
      go_wp2_with (first
        | (go_at_call 30; refine (HSM.out _).mono ?_; rintro e w9 ⟨rfl, hw9⟩; rw [hw9]; clear hw9)
        | (go_at_call 45; refine (rpush_full o1 idh ph most u st.l W1 hh (by omega)).mono ?_; rintro e w2 ⟨rfl, n2, hw2⟩; rw [hw2]; clear hw2)
        | (go_at_call 85; refine (rmake_any 4 0 _ (by decide) (by decide) (by omega) (by omega)).mono ?_; rintro e w9 ⟨rfl, hw9⟩; rw [hw9]; clear hw9))
      go_ret2
      exact ⟨o1, x1.drewN _, ⟨_, rfl, fun h => absurd (show (4 : Int) = 0 from h) (by decide)⟩, hh.dr _, ha.dr _, hV.dr _⟩
set_option maxHeartbeats 1000000 in
set_option maxRecDepth 100000 in
theorem rput_cpx (own : Nat → Nat) (idh ida idv : Nat) (hids : IdsP idh ida idv) (w : World) (ph pa q : Nat) (most at_ : Int) (s : ByteArray) (n re im : Int) (A : Option Addr) (len cap : Nat) (st : SS) (hh : RH own idh w ph most st.l) (ha : RAP own ida w pa st.L) (hV : VP own idv w q st.V) :
    Calls Try.prog 91 #[.pointer (some ⟨ph, 0, none⟩), .pointer (some ⟨pa, 0, none⟩), .agg #[.int .i64 4, .string s, .int .i64 n, .int .u64 re, .int .u64 im, .slice A len cap], .map (some q), .int .i64 at_] w (Does own [idh, ida, idv] w fun own' e w' => RPutEnd own' w' idh ida idv ph pa q most (putT most (.cpx re im) at_ st) e) := by
  obtain ⟨W1, hW1⟩ : ∃ W, w.alloc (.cells #[.int .i64 4, .string s, .int .i64 n, .int .u64 re, .int .u64 im, .slice A len cap] 25) = W := ⟨_, rfl⟩
  obtain ⟨o1, x1, kT, y1⟩ := boxV (Ext.refl own [idh, ida, idv] w) [.int .i64 4, .string s, .int .i64 n, .int .u64 re, .int .u64 im, .slice A len cap] 25 0 W1 hW1
  replace hh := hh.keep y1 (by simp)
  replace ha := ha.keep y1 (by simp)
  replace hV := hV.keep y1 (by simp)
  have hI := hids
  obtain ⟨i1, i2, i3, i4, i5, i6⟩ := hids
  have hll := hh.len
  have c0 := kT.cell 0 rfl; have c1 := kT.cell 1 rfl; have c2 := kT.cell 2 rfl; have c3 := kT.cell 3 rfl; have c4 := kT.cell 4 rfl; have c5 := kT.cell 5 rfl
  obtain ⟨r, hr⟩ : ∃ r, putT most (.cpx re im) at_ st = r := ⟨_, rfl⟩
  rw [hr]
  simp only [putT] at hr
  unfold wordsT at hr
  have hwl : IntKind.u64.wrap (st.l.length : Int) = st.l.length := by rw [wrap_u64]; omega
  by_cases h2 : (st.l.length : Int) + 2 ≤ most
  · rw [pushWs_room most [re, im] st.l (by simp; omega)] at hr
    simp only [if_true] at hr
    subst hr
    have hl1 : ((st.l ++ [re]).length : Int) = st.l.length + 1 := by simp
    go_enter Try.func91, Try.ntmps91
    go_wp2_with (first
      | (go_at_call 45; have mk2 := mk1; refine (rpush_room own2 idh ph most im (st.l ++ [re]) w2 g2 (by omega)).mono ?_; rintro e w3 ⟨own3, x3, rfl, g3⟩)
      | (go_at_call 45; refine (rpush_room o1 idh ph most re st.l W1 hh (by omega)).mono ?_; rintro e w2 ⟨own2, x2, rfl, g2⟩; have mk1 := g2; have kT2 := kT.keep x2 (by simpa using Ne.symm i1); have d0 := kT2.cell 0 rfl; have d1 := kT2.cell 1 rfl; have d2 := kT2.cell 2 rfl; have d3 := kT2.cell 3 rfl; have d4 := kT2.cell 4 rfl; have d5 := kT2.cell 5 rfl)
      | (go_at_call 85; refine (rmake_any 5 (st.l.length : Int) _ (by decide) (by decide) (by omega) (by omega)).mono ?_; rintro e w9 ⟨rfl, hw9⟩; rw [hw9]; clear hw9))
    go_ret2
    exact ⟨own3, (x1.trans (x2.mono (by simp))).trans (x3.mono (by simp)), ⟨_, rfl, fun _ => rfl⟩, by simpa using g3, (ha.keep x2 (by simpa using Ne.symm i4)).keep x3 (by simpa using Ne.symm i4), (hV.keep x2 (by simpa using Ne.symm i5)).keep x3 (by simpa using Ne.symm i5)⟩
  · by_cases h1 : (st.l.length : Int) < most
    · have hpw : pushWs most st.l [re, im] = (st.l ++ [re], false) := by unfold pushWs; rw [if_pos h1]; unfold pushWs; rw [if_neg (by simp; omega)]
      rw [hpw] at hr
      simp only [Bool.false_eq_true, if_false] at hr
      subst hr
      clear hpw
      have hl1 : ((st.l ++ [re]).length : Int) = st.l.length + 1 := by simp
      go_enter Try.func91, Try.ntmps91
      go_wp2_with (first
        | (go_at_call 45; have mk2 := mk1; refine (rpush_full own2 idh ph most im (st.l ++ [re]) w2 g2 (by omega)).mono ?_; rintro e w3 ⟨rfl, n3, hw3⟩; rw [hw3]; clear hw3)
        | (go_at_call 45; refine (rpush_room o1 idh ph most re st.l W1 hh (by omega)).mono ?_; rintro e w2 ⟨own2, x2, rfl, g2⟩; have mk1 := g2; have kT2 := kT.keep x2 (by simpa using Ne.symm i1); have d0 := kT2.cell 0 rfl; have d1 := kT2.cell 1 rfl; have d2 := kT2.cell 2 rfl; have d3 := kT2.cell 3 rfl; have d4 := kT2.cell 4 rfl; have d5 := kT2.cell 5 rfl)
        | (go_at_call 85; refine (rmake_any 5 (st.l.length : Int) _ (by decide) (by decide) (by omega) (by omega)).mono ?_; rintro e w9 ⟨rfl, hw9⟩; rw [hw9]; clear hw9))
      go_ret2
      exact ⟨own2, (x1.trans (x2.mono (by simp))).drewN _, ⟨_, rfl, fun h => absurd (show (4 : Int) = 0 from h) (by decide)⟩, g2.dr _, (ha.keep x2 (by simpa using Ne.symm i4)).dr _, (hV.keep x2 (by simpa using Ne.symm i5)).dr _⟩
    · have hpw : pushWs most st.l [re, im] = (st.l, false) := by unfold pushWs; rw [if_neg h1]
      rw [hpw] at hr
      simp only [Bool.false_eq_true, if_false] at hr
      subst hr
      clear hpw
      go_enter Try.func91, Try.ntmps91
      go_wp2_with (first
        | (go_at_call 45; refine (rpush_full o1 idh ph most re st.l W1 hh (by omega)).mono ?_; rintro e w2 ⟨rfl, n2, hw2⟩; rw [hw2]; clear hw2)
        | (go_at_call 85; refine (rmake_any 5 0 _ (by decide) (by decide) (by omega) (by omega)).mono ?_; rintro e w9 ⟨rfl, hw9⟩; rw [hw9]; clear hw9))
      go_ret2
      exact ⟨o1, x1.drewN _, ⟨_, rfl, fun h => absurd (show (4 : Int) = 0 from h) (by decide)⟩, hh.dr _, ha.dr _, hV.dr _⟩

end Go.Proofs.Ytlmcfclonncgbaa
