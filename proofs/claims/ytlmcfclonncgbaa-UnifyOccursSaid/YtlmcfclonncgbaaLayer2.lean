/- The layer that lays terms (package store): variables. -/
import Derived.Test.YtlmcfclonncgbaaPk3
import Derived.Test.YtlmcfclonncgbaaPk4
import Derived.Deep.QuietTactic
import Derived.BigQuiet
import Derived.Deep.RegionWith
namespace Go.Proofs.Ytlmcfclonncgbaa
open Go.RowKit
set_option linter.unusedVariables false

def TD.val (y : TD) : Value := .agg #[.int .i64 y.t.kind, .string y.t.name, .int .i64 y.t.int, .int .u64 y.t.re, .int .u64 y.t.im, .slice y.A y.l y.c, .int .i64 y.at_, .bool y.laid, .int .u64 y.x]
theorem wf_i64_mk {n : Int} (h : -9223372036854775808 ≤ n ∧ n ≤ 9223372036854775807) : (Lit.int .i64 n).wf = true := by
  simpa [Lit.wf, IntKind.min, IntKind.max, IntKind.bits, IntKind.signed] using h
theorem wf_u64_mk {n : Int} (h0 : 0 ≤ n) (h1 : n < 18446744073709551616) : (Lit.int .u64 n).wf = true := by
  simp [Lit.wf, IntKind.min, IntKind.max, IntKind.bits, IntKind.signed]; omega
set_option maxRecDepth 100000 in
set_option maxHeartbeats 4000000 in
theorem yvariable_met (L : List ByteArray) (own : Nat → Nat) (idy idv y ph pa mb : Nat) (v : Value) (most : Int) (l : List Int) (V : List (Int × Int)) (w : World) (hb : LB own idy w y ph pa mb v) (hV : VP own idv w mb V) (td : TD)
    (hr : -9223372036854775808 ≤ td.t.int ∧ td.t.int ≤ 9223372036854775807) (c : Int) (hc : look V td.t.int = some c) :
    Calls Try.prog 120 #[.pointer (some ⟨y, 0, none⟩), td.val] w (Does own [] w fun own' e w' => e = .returned (.tuple #[.int .u64 c, .int .i64 0])) := by
  have e : td.val = .agg #[.int .i64 td.t.kind, .string td.t.name, .int .i64 td.t.int, .int .u64 td.t.re, .int .u64 td.t.im, .slice td.A td.l td.c, .int .i64 td.at_, .bool td.laid, .int .u64 td.x] := rfl
  rw [e]
  obtain ⟨x1, kb, y1⟩ := (Ext.refl own [] w).box td.cells 127 0
  have hb1 := Blk.keep hb y1 (by simp)
  have hV1 := hV.keep y1 (by simp)
  have c2 := Blk.cell hb1 2 rfl
  have d2 := kb.cell 2 rfl
  have hlk := fun n => (hV1.dr n).look_ok (t := 52) Try.underlying52 Try.underlying2 Try.underlying34 (zero_cell _) td.t.int (wf_i64_mk hr)
  rw [hc] at hlk
  simp only [Option.getD_some, Option.isSome_some] at hlk
  go_enter Try.func120, Try.ntmps120
  go_wp2_with fail
  change Code.wp _ _ _ _ (w.alloc (.cells td.cells.toArray 127))
  generalize w.alloc (.cells td.cells.toArray 127) = W1 at *
  go_quiet (fail)
  go_wp2_with fail
  go_ret2
  exact ⟨_, x1.drewN _, rfl⟩
set_option maxRecDepth 100000 in
set_option maxHeartbeats 4000000 in
theorem yvariable_own (L : List ByteArray) (own : Nat → Nat) (idy idv y ph pa mb : Nat) (v : Value) (most : Int) (l : List Int) (V : List (Int × Int)) (w : World) (hb : LB own idy w y ph pa mb v) (hV : VP own idv w mb V) (td : TD) (hne : idy ≠ idv) (hne0 : idv ≠ 0)
    (hr : -9223372036854775808 ≤ td.t.int ∧ td.t.int ≤ 9223372036854775807) (hc : look V td.t.int = none) (ha0 : 0 ≤ td.at_) (ha1 : td.at_ < 1048576) (hVl : V.length < 1000000) :
    Calls Try.prog 120 #[.pointer (some ⟨y, 0, none⟩), td.val] w (Does own [idv] w fun own' e w' => e = .returned (.tuple #[.int .u64 (td.at_ * 8), .int .i64 0]) ∧ VP own' idv w' mb (V ++ [(td.t.int, td.at_ * 8)])) := by
  have e : td.val = .agg #[.int .i64 td.t.kind, .string td.t.name, .int .i64 td.t.int, .int .u64 td.t.re, .int .u64 td.t.im, .slice td.A td.l td.c, .int .i64 td.at_, .bool td.laid, .int .u64 td.x] := rfl
  rw [e]
  obtain ⟨x1, kb, y1⟩ := (Ext.refl own [idv] w).box td.cells 127 0
  have hb1 := Blk.keep hb y1 (by simp)
  have hV1 := hV.keep y1 (by simp)
  have c2 := Blk.cell hb1 2 rfl
  have d2 := kb.cell 2 rfl
  have d6 := kb.cell 6 rfl
  have hlk := fun n => (hV1.dr n).look_ok (t := 52) Try.underlying52 Try.underlying2 Try.underlying34 (zero_cell _) td.t.int (wf_i64_mk hr)
  rw [hc] at hlk
  simp only [Option.getD_none, Option.isSome_none] at hlk
  have HC := Lib.hid hc
  have HV := Lib.hid hV1
  have X1 := Lib.hid x1
  clear hc hV hb hV1 x1 y1
  go_enter Try.func120, Try.ntmps120
  go_wp2_with fail
  change Code.wp _ _ _ _ (w.alloc (.cells td.cells.toArray 127))
  generalize w.alloc (.cells td.cells.toArray 127) = W1 at *
  go_quiet (fail)
  go_wp2_with fail
  obtain ⟨w3, hput, hm3, x3, g3⟩ := MV.put (w := W1.drewN (nq + 1)) HV.out (t := 52) Try.underlying52 Try.underlying2 Try.underlying34 td.t.int (td.at_ * 8) (wf_i64_mk hr) (wf_u64_mk (by omega) (by omega)) HC.out (by omega)
  clear hlk
  go_region_with (first | (go_at_call 158; refine (ref_any _ _ (by omega) (by omega)).mono ?_; rintro e w' ⟨rfl, rfl⟩))
  all_goals go_wp2_with (go_at_call 158; refine (ref_any _ _ (by omega) (by omega)).mono ?_; rintro e w' ⟨rfl, rfl⟩)
  all_goals go_ret2
  all_goals exact ⟨_, ((X1.out.drewN _).mono (by simp)).trans x3, rfl, hm3⟩
set_option maxRecDepth 100000 in
set_option maxHeartbeats 4000000 in
theorem yvariable_new (L : List ByteArray) (own : Nat → Nat) (idy idv idh y ph pa mb : Nat) (v : Value) (most : Int) (l : List Int) (V : List (Int × Int)) (w : World) (hb : LB own idy w y ph pa mb v) (hV : VP own idv w mb V) (hh : HP own idh w ph most l) (td : TD) (hne : idy ≠ idv) (hne2 : idh ≠ idv) (hne3 : idh ≠ idy)
    (hr : -9223372036854775808 ≤ td.t.int ∧ td.t.int ≤ 9223372036854775807) (hc : look V td.t.int = none) (ha0 : td.at_ < 0) (hVl : V.length < 1000000) (hroom : (l.length : Int) < most) :
    Calls Try.prog 120 #[.pointer (some ⟨y, 0, none⟩), td.val] w (Does own [idh, idv] w fun own' e w' => e = .returned (.tuple #[.int .u64 ((l.length : Int) * 8), .int .i64 0]) ∧ HP own' idh w' ph most (l ++ [(l.length : Int) * 8]) ∧ VP own' idv w' mb (V ++ [(td.t.int, (l.length : Int) * 8)])) := by
  have e : td.val = .agg #[.int .i64 td.t.kind, .string td.t.name, .int .i64 td.t.int, .int .u64 td.t.re, .int .u64 td.t.im, .slice td.A td.l td.c, .int .i64 td.at_, .bool td.laid, .int .u64 td.x] := rfl
  rw [e]
  have hlen := hh.len
  obtain ⟨F0, hF0, hF⟩ := own_ne own w.heap.size
  obtain ⟨x1, kb, y1⟩ := (Ext.refl own [idh, idv] w).box td.cells 127 (F0 + idh + idv + 1)
  have hb1 := Blk.keep hb y1 (by simp)
  have hV1 := hV.keep y1 (by simp)
  have hh1 := hh.keep y1 (by simp)
  have c2 := Blk.cell hb1 2 rfl
  have c0 := Blk.cell hb1 0 rfl
  have d2 := kb.cell 2 rfl
  have d6 := kb.cell 6 rfl
  have hlk := fun n => (hV1.dr n).look_ok (t := 52) Try.underlying52 Try.underlying2 Try.underlying34 (zero_cell _) td.t.int (wf_i64_mk hr)
  rw [hc] at hlk
  simp only [Option.getD_none, Option.isSome_none] at hlk
  have HC := Lib.hid hc
  have HV := Lib.hid hV1
  have X1 := Lib.hid x1
  have HB := Lib.hid hb1
  have HK := Lib.hid kb
  have hl0 : (0 : Int) ≤ l.length := by omega
  have hl1 : (l.length : Int) ≤ 1048576 := by omega
  generalize hLL : (l.length : Int) = LL at *
  have HLL := Lib.hid hLL
  clear hc hV hb hV1 x1 y1 hb1 kb hh hlen hLL
  go_enter Try.func120, Try.ntmps120
  go_wp2_with fail
  change Code.wp _ _ _ _ (w.alloc (.cells td.cells.toArray 127))
  generalize w.alloc (.cells td.cells.toArray 127) = W1 at *
  go_quiet (fail)
  go_wp2_with fail
  refine (var_room _ idh ph most l (W1.drewN nq) (hh1.dr nq) (by rw [HLL.out]; exact hroom)).mono ?_
  rintro e w2 ⟨own2, x2, rfl, hh2⟩
  have x2' := x2.ofDrew
  have hV2 := HV.out.keep x2' (by simp; omega)
  have hb2 := Blk.keep HB.out x2' (by simp; omega)
  have kb2 := HK.out.keep x2' (by simp; omega)
  clear c2 c0 d2 d6 hlk
  have c2 := Blk.cell hb2 2 rfl
  have d2 := kb2.cell 2 rfl
  obtain ⟨w3, hput, hm3, x3, g3⟩ := MV.put (w := w2.drew) hV2 (t := 52) Try.underlying52 Try.underlying2 Try.underlying34 td.t.int (LL * 8) (wf_i64_mk hr) (wf_u64_mk (by omega) (by omega)) HC.out (by omega)
  rw [HLL.out] at hh2 ⊢
  have x3' : Ext own2 own2 [idv] w2 w3 := ⟨x3.os, x3.tape, x3.output, x3.size, x3.own, x3.block⟩
  have hh3 := hh2.keep x3' (by simpa using hne2)
  have x4 := (X1.out.trans (x2'.mono (by simp))).trans (x3'.mono (jds := [idh, idv]) (by simp))
  clear hV2 hb2 kb2
  go_wp2_with fail
  go_region_with (first | (go_at_call 158; refine (ref_any _ _ (by omega) (by omega)).mono ?_; rintro e w' ⟨rfl, rfl⟩))
  all_goals go_wp2_with (go_at_call 158; refine (ref_any _ _ (by omega) (by omega)).mono ?_; rintro e w' ⟨rfl, rfl⟩)
  all_goals go_ret2
  all_goals exact ⟨_, x4, rfl, hh3, hm3⟩
set_option maxRecDepth 100000 in
set_option maxHeartbeats 4000000 in
theorem yvariable_full (L : List ByteArray) (own : Nat → Nat) (idy idv idh y ph pa mb : Nat) (v : Value) (most : Int) (l : List Int) (V : List (Int × Int)) (w : World) (hb : LB own idy w y ph pa mb v) (hV : VP own idv w mb V) (hh : HP own idh w ph most l) (td : TD)
    (hr : -9223372036854775808 ≤ td.t.int ∧ td.t.int ≤ 9223372036854775807) (hc : look V td.t.int = none) (ha0 : td.at_ < 0) (hfull : (l.length : Int) = most) :
    Calls Try.prog 120 #[.pointer (some ⟨y, 0, none⟩), td.val] w (Does own [] w fun own' e w' => e = .returned (.tuple #[.int .u64 0, .int .i64 4])) := by
  have e : td.val = .agg #[.int .i64 td.t.kind, .string td.t.name, .int .i64 td.t.int, .int .u64 td.t.re, .int .u64 td.t.im, .slice td.A td.l td.c, .int .i64 td.at_, .bool td.laid, .int .u64 td.x] := rfl
  rw [e]
  obtain ⟨x1, kb, y1⟩ := (Ext.refl own [] w).box td.cells 127 0
  have hb1 := Blk.keep hb y1 (by simp)
  have hV1 := hV.keep y1 (by simp)
  have hh1 := hh.keep y1 (by simp)
  have c2 := Blk.cell hb1 2 rfl
  have c0 := Blk.cell hb1 0 rfl
  have d2 := kb.cell 2 rfl
  have d6 := kb.cell 6 rfl
  have hlk := fun n => (hV1.dr n).look_ok (t := 52) Try.underlying52 Try.underlying2 Try.underlying34 (zero_cell _) td.t.int (wf_i64_mk hr)
  rw [hc] at hlk
  simp only [Option.getD_none, Option.isSome_none] at hlk
  have X1 := Lib.hid x1
  have HF := Lib.hid hfull
  clear hc hV hb hV1 x1 y1 hb1 kb hh hfull
  go_enter Try.func120, Try.ntmps120
  go_wp2_with fail
  change Code.wp _ _ _ _ (w.alloc (.cells td.cells.toArray 127))
  generalize w.alloc (.cells td.cells.toArray 127) = W1 at *
  go_quiet (fail)
  go_wp2_with fail
  refine (var_full _ idh ph most l (W1.drewN nq) (hh1.dr nq) HF.out).mono ?_
  rintro e w2 ⟨rfl, m, rfl⟩
  go_wp2_with fail
  go_ret2
  exact ⟨_, X1.out.drewN _, rfl⟩
/-- A variable's cell. -/
theorem yvariable_any (L : List ByteArray) (own : Nat → Nat) (idy idv idh y ph pa mb : Nat) (v : Value) (most : Int) (l : List Int) (V : List (Int × Int)) (w : World) (hb : LB own idy w y ph pa mb v) (hV : VP own idv w mb V) (hh : HP own idh w ph most l) (td : TD) (hne : idy ≠ idv) (hne2 : idh ≠ idv) (hne3 : idh ≠ idy) (hv0 : idv ≠ 0)
    (hr : -9223372036854775808 ≤ td.t.int ∧ td.t.int ≤ 9223372036854775807) (ha1 : td.at_ < 1048576) (hVl : V.length < 1000000) :
    Calls Try.prog 120 #[.pointer (some ⟨y, 0, none⟩), td.val] w (Does own [idh, idv] w fun own' e w' => e = .returned (retC (varT most td.t.int td.at_ ⟨l, L, V⟩)) ∧ HP own' idh w' ph most (varT most td.t.int td.at_ ⟨l, L, V⟩).1.l ∧ VP own' idv w' mb (varT most td.t.int td.at_ ⟨l, L, V⟩).1.V) := by
  unfold varT
  cases hc : look V td.t.int with
  | some c =>
    refine (yvariable_met L own idy idv y ph pa mb v most l V w hb hV td hr c hc).mono ?_
    rintro e w' ⟨own', x, rfl⟩
    exact ⟨own', x.mono (by simp), rfl, hh.keep x (by simp), hV.keep x (by simp)⟩
  | none =>
    dsimp only
    by_cases ha : td.at_ < 0
    · simp only [if_pos ha]
      by_cases hroom : (l.length : Int) < most
      · simp only [if_pos hroom]
        exact yvariable_new L own idy idv idh y ph pa mb v most l V w hb hV hh td hne hne2 hne3 hr hc ha hVl hroom
      · simp only [if_neg hroom]
        refine (yvariable_full L own idy idv idh y ph pa mb v most l V w hb hV hh td hr hc ha (by have := hh.len; omega)).mono ?_
        rintro e w' ⟨own', x, rfl⟩
        exact ⟨own', x.mono (by simp), rfl, hh.keep x (by simp), hV.keep x (by simp)⟩
    · simp only [if_neg ha]
      refine (yvariable_own L own idy idv y ph pa mb v most l V w hb hV td hne hv0 hr hc (by omega) ha1 hVl).mono ?_
      rintro e w' ⟨own', x, rfl, hV'⟩
      exact ⟨own', x.mono (by simp), rfl, hh.keep x (by simpa using hne2), hV'⟩

end Go.Proofs.Ytlmcfclonncgbaa
