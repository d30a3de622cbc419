/- The reference's named, plainOne (package elenchusref1): a term, each variable by another number. -/
import Derived.Test.YtlmcfclonncgbaaRPlain
import Derived.Test.YtlmcfclonncgbaaPk1
import Derived.Test.YtlmcfclonncgbaaPk2
namespace Go.Proofs.Ytlmcfclonncgbaa
open Go.RowKit
set_option linter.unusedVariables false
set_option linter.unusedSimpArgs false

set_option maxHeartbeats 1600000 in
set_option maxRecDepth 100000 in
theorem plain_none (own : Nat → Nat) (s : ByteArray) (n re im : Int) (w : World) : Calls Try.prog 106 #[.agg #[.int .i64 5, .string s, .int .i64 n, .int .u64 re, .int .u64 im, .slice none 0 0]] w (Does own [] w fun own' e w' => e = .returned (.agg #[.int .i64 5, .string s, .int .i64 0, .int .u64 0, .int .u64 0, .slice none 0 0])) := by
  go_enter Try.func106, Try.ntmps106
  go_wp2_with fail
  go_loopw [38] (fun u wr => u = .int .i64 0 ∧ wr = ((w.alloc (.cells #[.int .i64 5, .string s, .int .i64 n, .int .u64 re, .int .u64 im, .slice none 0 0] 25)).alloc (.cells #[.int .i64 0, .string ByteArray.empty, .int .i64 0, .int .u64 0, .int .u64 0, .slice none 0 0] 25)).alloc (.cells #[.int .i64 5, .string s, .int .i64 0, .int .u64 0, .int .u64 0, .slice none 0 0] 25)) (fun u _ => 0)
  case atStart => exact ⟨rfl, rfl⟩
  case round =>
    obtain ⟨rfl, rfl⟩ := hrel
    go_wp2_with fail
    (try simp only [Exit.inBlock, Exit.then])
    refine bodyPost_ret (v := .agg #[.int .i64 5, .string s, .int .i64 0, .int .u64 0, .int .u64 0, .slice none 0 0]) ?_ rfl ?_
    · rw [results_cell1 rfl]
      go_simp
      try rfl
    · exact ⟨own, (by repeat (first | exact Ext.refl own [] w | refine Ext.alloc ?_ _)), rfl⟩

set_option maxHeartbeats 1600000 in
set_option maxRecDepth 100000 in
theorem plainOne_comp (own : Nat → Nat) (s : ByteArray) (n re im : Int) (A : Option Addr) (len cap : Nat) (w : World) : Calls Try.prog 151 #[.agg #[.int .i64 5, .string s, .int .i64 n, .int .u64 re, .int .u64 im, .slice A len cap]] w (Does own [] w fun own' e w' => e = .returned (.agg #[.int .i64 5, .string s, .int .i64 0, .int .u64 0, .int .u64 0, .slice none 0 0])) := by
  obtain ⟨F0, hF0, hFF⟩ := own_ne own w.heap.size
  obtain ⟨x1, kb, y1⟩ := (Ext.refl own [] w).box [.int .i64 5, .string s, .int .i64 n, .int .u64 re, .int .u64 im, .slice none 0 0] 25 F0
  generalize _root_.Go.Proofs.Ytlmcfclonncgbaa.give own w.heap.size F0 = o1 at *
  obtain ⟨x2, kZ, y2⟩ := x1.box [.int .i64 0, .string ByteArray.empty, .int .i64 0, .int .u64 0, .int .u64 0, .slice none 0 0] 25 (F0 + 4)
  generalize _root_.Go.Proofs.Ytlmcfclonncgbaa.give o1 (w.alloc (.cells #[.int .i64 5, .string s, .int .i64 n, .int .u64 re, .int .u64 im, .slice none 0 0] 25)).heap.size (F0 + 4) = o2 at *
  simp only [World.size_alloc] at kZ
  have k2 := kb.keep y2 (by simp)
  have hT0 : TmS o2 ((w.alloc (.cells #[.int .i64 5, .string s, .int .i64 n, .int .u64 re, .int .u64 im, .slice none 0 0] 25)).alloc (.cells #[.int .i64 0, .string ByteArray.empty, .int .i64 0, .int .u64 0, .int .u64 0, .slice none 0 0] 25)) (.mk 0 ByteArray.empty 0 0 0 []) (.slice none 0 0) := leaf_term (by unfold Rng; decide)
  have HX := Lib.hid (And.intro x2 (And.intro kZ hT0))
  clear x1 x2 y1 y2 kZ hT0 hFF kb
  have c0 := k2.cell 0 rfl; have c1 := k2.cell 1 rfl; have c2 := k2.cell 2 rfl; have c3 := k2.cell 3 rfl; have c4 := k2.cell 4 rfl; have c5 := k2.cell 5 rfl
  go_enter Try.func151, Try.ntmps151
  go_wp2_with (go_at_call 106; refine (plain_none o2 s n re im _).mono ?_; rintro e3 w3 ⟨own3, x3, rfl⟩; have kZ3 := HX.out.2.1.keep x3 (by simp); have X3 := HX.out.1.trans x3; have b0 := kZ3.cell 0 rfl; have b1 := kZ3.cell 1 rfl; have b2 := kZ3.cell 2 rfl; have b3 := kZ3.cell 3 rfl; have b4 := kZ3.cell 4 rfl; have b5 := kZ3.cell 5 rfl; have bf0 := kZ3.free 0; have bf1 := kZ3.free 1; have bf2 := kZ3.free 2; have bf3 := kZ3.free 3; have bf4 := kZ3.free 4; have bf5 := kZ3.free 5)
  have hT3 := TmS.keep x3 (by simp) _ _ HX.out.2.2
  have HE := Lib.hid (store_res (v0 := .int .i64 5) (v1 := .string s) (v2 := .int .i64 0) (v3 := .int .u64 0) (v4 := .int .u64 0) (v5 := .slice none 0 0) X3 (by omega) kZ3 (by omega) hT3)
  (try simp only [Exit.inBlock, Exit.then])
  refine bodyPost_ret (v := .agg #[.int .i64 5, .string s, .int .i64 0, .int .u64 0, .int .u64 0, .slice none 0 0]) ?_ rfl ?_
  · rw [results_cell1 rfl]
    have kk := HE.out.2.2
    have z0 := kk.cell 0 rfl
    have z1 := kk.cell 1 rfl
    have z2 := kk.cell 2 rfl
    have z3 := kk.cell 3 rfl
    have z4 := kk.cell 4 rfl
    have z5 := kk.cell 5 rfl
    go_simp
    try rfl
  · exact ⟨own3, HE.out.1, rfl⟩
set_option maxHeartbeats 1600000 in
set_option maxRecDepth 100000 in
theorem plainOne_leaf (own : Nat → Nat) (k n re im : Int) (s : ByteArray) (args : List Tm) (A : Option Addr) (len cap : Nat) (w : World) (h : TmS own w (.mk k s n re im args) (.slice A len cap)) (hk : 1 ≤ k) (h4 : k ≤ 4) : Calls Try.prog 151 #[.agg #[.int .i64 k, .string s, .int .i64 n, .int .u64 re, .int .u64 im, .slice A len cap]] w (MadeT own w (cl (.mk k s n re im []))) := by
  obtain ⟨F0, hF0, hFF⟩ := own_ne own w.heap.size
  obtain ⟨x1, kb, y1⟩ := (Ext.refl own [] w).box [.int .i64 k, .string s, .int .i64 n, .int .u64 re, .int .u64 im, .slice none 0 0] 25 F0
  generalize _root_.Go.Proofs.Ytlmcfclonncgbaa.give own w.heap.size F0 = o1 at *
  obtain ⟨x2, kZ, y2⟩ := x1.box [.int .i64 0, .string ByteArray.empty, .int .i64 0, .int .u64 0, .int .u64 0, .slice none 0 0] 25 (F0 + 4)
  generalize _root_.Go.Proofs.Ytlmcfclonncgbaa.give o1 (w.alloc (.cells #[.int .i64 k, .string s, .int .i64 n, .int .u64 re, .int .u64 im, .slice none 0 0] 25)).heap.size (F0 + 4) = o2 at *
  simp only [World.size_alloc] at kZ
  have k2 := kb.keep y2 (by simp)
  have hT2 : TmS o2 ((w.alloc (.cells #[.int .i64 k, .string s, .int .i64 n, .int .u64 re, .int .u64 im, .slice none 0 0] 25)).alloc (.cells #[.int .i64 0, .string ByteArray.empty, .int .i64 0, .int .u64 0, .int .u64 0, .slice none 0 0] 25)) (.mk k s n re im []) (.slice none 0 0) := leaf_term h.rng
  have hc := plain_any (.mk k s n re im []) _ o2 _ hT2 (.leaf hk h4) (fun h5 => by have h5' : k = 5 := h5; omega)
  rw [show valT (.mk k s n re im []) (.slice none 0 0) = .agg #[.int .i64 k, .string s, .int .i64 n, .int .u64 re, .int .u64 im, .slice none 0 0] from rfl] at hc
  obtain ⟨C, hC⟩ : ∃ C, cl (.mk k s n re im []) = C := ⟨_, rfl⟩
  rw [hC] at hc ⊢
  have HX := Lib.hid (And.intro x2 (And.intro kZ hc))
  clear x1 x2 y1 y2 kZ hFF kb hc hC h hT2
  have c0 := k2.cell 0 rfl; have c1 := k2.cell 1 rfl; have c2 := k2.cell 2 rfl; have c3 := k2.cell 3 rfl; have c4 := k2.cell 4 rfl; have c5 := k2.cell 5 rfl
  go_enter Try.func151, Try.ntmps151
  go_wp2_with (go_at_call 106; refine Calls.mono HX.out.2.2 ?_; rintro e3 w3 ⟨own3, x3, A3, l3, cp3, (rfl : e3 = .returned (.agg #[.int .i64 (un C).kind, .string (un C).name, .int .i64 (un C).int, .int .u64 (un C).re, .int .u64 (un C).im, .slice A3 l3 cp3])), hT3⟩; have kZ3 := HX.out.2.1.keep x3 (by simp); have X3 := HX.out.1.trans x3; have b0 := kZ3.cell 0 rfl; have b1 := kZ3.cell 1 rfl; have b2 := kZ3.cell 2 rfl; have b3 := kZ3.cell 3 rfl; have b4 := kZ3.cell 4 rfl; have b5 := kZ3.cell 5 rfl; have bf0 := kZ3.free 0; have bf1 := kZ3.free 1; have bf2 := kZ3.free 2; have bf3 := kZ3.free 3; have bf4 := kZ3.free 4; have bf5 := kZ3.free 5)
  have HE := Lib.hid (store_res (v0 := .int .i64 (un C).kind) (v1 := .string (un C).name) (v2 := .int .i64 (un C).int) (v3 := .int .u64 (un C).re) (v4 := .int .u64 (un C).im) (v5 := .slice A3 l3 cp3) X3 (by omega) kZ3 (by omega) hT3)
  (try simp only [Exit.inBlock, Exit.then])
  refine bodyPost_ret (v := .agg #[.int .i64 (un C).kind, .string (un C).name, .int .i64 (un C).int, .int .u64 (un C).re, .int .u64 (un C).im, .slice A3 l3 cp3]) ?_ rfl ?_
  · rw [results_cell1 rfl]
    have kk := HE.out.2.2
    have z0 := kk.cell 0 rfl
    have z1 := kk.cell 1 rfl
    have z2 := kk.cell 2 rfl
    have z3 := kk.cell 3 rfl
    have z4 := kk.cell 4 rfl
    have z5 := kk.cell 5 rfl
    go_simp
    try rfl
  · exact ⟨own3, HE.out.1, A3, l3, cp3, rfl, HE.out.2.1⟩
theorem wfI64 {n : Int} (h : -9223372036854775808 ≤ n ∧ n ≤ 9223372036854775807) : (Lit.int .i64 n).wf = true := by
  simpa [Lit.wf, IntKind.min, IntKind.max, IntKind.bits, IntKind.signed] using h
theorem zero_i64 (w : World) : (zeroValue 2).run Try.prog w = .ok (.int .i64 0) w := by kernel_rfl
abbrev NP (own : Nat → Nat) (id : Nat) (w : World) (p : Nat) (V : List (Int × Int)) : Prop := MV own id w Try.prog .i64 .i64 2 2 p V
def numG (V : List (Int × Int)) : Int → CT := fun n => .var ((look V n).getD 0)
set_option maxHeartbeats 1600000 in
set_option maxRecDepth 100000 in
theorem named_any (idv p : Nat) (V : List (Int × Int)) (hVr : ∀ n, -9223372036854775808 ≤ (look V n).getD 0 ∧ (look V n).getD 0 ≤ 9223372036854775807) : ∀ (t : Tm) (sl : Value) (own : Nat → Nat) (w : World), TmS own w t sl → Kinds t → fine (cl t) → NP own idv w p V →
    Calls Try.prog 108 #[valT t sl, .map (some p)] w (MadeT own w (subst (numG V) (cl t))) := by
  refine Tm.ind ?_
  intro k s n re im args ih sl own w h hk hf hM
  obtain ⟨A, len, cap, rfl, hL⟩ := h.args
  rw [valT_mk]
  have hrr := h.rng
  have hlen : args.length = len := hL.1
  have hk15 : 1 ≤ k ∧ k ≤ 5 := by cases hk <;> omega
  obtain ⟨F0', hF0', hFF'⟩ := own_ne own w.heap.size
  obtain ⟨F0, hF0⟩ : ∃ F, F0' + idv = F := ⟨_, rfl⟩
  have hFF : ∀ b, b < w.heap.size → own b < F0 := fun b hb => by have := hFF' b hb; omega
  have hidn : idv ∉ [F0 + 1, F0 + 2] := by simp; omega
  clear hFF' hF0' hF0
  obtain ⟨x1, kb, y1⟩ := (Ext.refl own [] w).box [.int .i64 k, .string s, .int .i64 n, .int .u64 re, .int .u64 im, .slice A len cap] 25 F0
  replace hL : TmL _ _ args A len cap := hL.keep y1 (by simp)
  generalize hown : _root_.Go.Proofs.Ytlmcfclonncgbaa.give own w.heap.size F0 = o1 at *
  rcases cl_cases k s n re im args hk15.1 hk15.2 with ⟨rfl, e⟩ | ⟨rfl, e⟩ | ⟨rfl, e⟩ | ⟨rfl, e⟩ | ⟨rfl, e⟩
  · rw [e]
    change Calls _ _ _ _ (MadeT own w (numG V n))
    obtain ⟨x2, kZ, y2⟩ := x1.box [.int .i64 0, .string ByteArray.empty, .int .i64 0, .int .u64 0, .int .u64 0, .slice none 0 0] 25 (F0 + 4)
    generalize _root_.Go.Proofs.Ytlmcfclonncgbaa.give o1 (w.alloc (.cells #[.int .i64 1, .string s, .int .i64 n, .int .u64 re, .int .u64 im, .slice A len cap] 25)).heap.size (F0 + 4) = o2 at *
    simp only [World.size_alloc] at kZ
    have k2 := kb.keep y2 (by simp)
    have hw : (Lit.int .i64 n).wf = true := wfI64 hrr.2.1
    have hlk : ∀ o, (Instr.lookup 171 (.map (some p)) (.int .i64 n) false).run Try.prog ((w.alloc (.cells #[.int .i64 1, .string s, .int .i64 n, .int .u64 re, .int .u64 im, .slice A len cap] 25)).alloc o) = .ok (.int .i64 ((look V n).getD 0)) ((w.alloc (.cells #[.int .i64 1, .string s, .int .i64 n, .int .u64 re, .int .u64 im, .slice A len cap] 25)).alloc o) := fun o => ((hM.keep y1 (by simp)).keep ((Ext.refl o1 [] _).alloc o) (by simp)).at_ Try.underlying171 Try.underlying2 Try.underlying2 (zero_i64 _) n hw
    have HX := Lib.hid (And.intro x2 (And.intro kZ (hVr n)))
    obtain ⟨q, hq⟩ : ∃ q, (look V n).getD 0 = q := ⟨_, rfl⟩
    rw [hq] at hlk HX
    have hG : numG V n = .var q := by unfold numG; rw [hq]
    rw [hG]
    clear h hL x1 x2 y1 y2 kb hFF hf hk ih hM hrr hVr hq hG kZ hw
    have c0 := k2.cell 0 rfl; have c1 := k2.cell 1 rfl; have c2 := k2.cell 2 rfl; have c3 := k2.cell 3 rfl; have c4 := k2.cell 4 rfl; have c5 := k2.cell 5 rfl
    go_enter Try.func108, Try.ntmps108
    go_wp2_with (go_at_call 35; refine (r1var_any o2 _ _).mono ?_; rintro e3 w3 ⟨own3, x3, (rfl : e3 = .returned (.agg #[.int .i64 1, .string ByteArray.empty, .int .i64 q, .int .u64 0, .int .u64 0, .slice none 0 0]))⟩; have kZ3 := HX.out.2.1.keep x3 (by simp); have X3 := HX.out.1.trans x3; have b0 := kZ3.cell 0 rfl; have b1 := kZ3.cell 1 rfl; have b2 := kZ3.cell 2 rfl; have b3 := kZ3.cell 3 rfl; have b4 := kZ3.cell 4 rfl; have b5 := kZ3.cell 5 rfl; have bf0 := kZ3.free 0; have bf1 := kZ3.free 1; have bf2 := kZ3.free 2; have bf3 := kZ3.free 3; have bf4 := kZ3.free 4; have bf5 := kZ3.free 5)
    have hT : TmS own3 w3 (un (.var q)) (.slice none 0 0) := leaf_term ⟨by decide, HX.out.2.2, by decide, by decide, by decide⟩
    have HE := Lib.hid (store_res (v0 := .int .i64 1) (v1 := .string ByteArray.empty) (v2 := .int .i64 q) (v3 := .int .u64 0) (v4 := .int .u64 0) (v5 := .slice none 0 0) X3 (by omega) kZ3 (by omega) hT)
    (try simp only [Exit.inBlock, Exit.then])
    refine bodyPost_ret (v := .agg #[.int .i64 1, .string ByteArray.empty, .int .i64 q, .int .u64 0, .int .u64 0, .slice none 0 0]) ?_ rfl ?_
    · rw [results_cell1 rfl]
      have kk := HE.out.2.2
      have z0 := kk.cell 0 rfl
      have z1 := kk.cell 1 rfl
      have z2 := kk.cell 2 rfl
      have z3 := kk.cell 3 rfl
      have z4 := kk.cell 4 rfl
      have z5 := kk.cell 5 rfl
      go_simp
      try rfl
    · exact ⟨own3, HE.out.1, none, 0, 0, rfl, HE.out.2.1⟩
  · rw [e]
    change Calls _ _ _ _ (MadeT own w (.atom s))
    obtain ⟨x2, kZ, y2⟩ := x1.box [.int .i64 0, .string ByteArray.empty, .int .i64 0, .int .u64 0, .int .u64 0, .slice none 0 0] 25 (F0 + 4)
    generalize _root_.Go.Proofs.Ytlmcfclonncgbaa.give o1 (w.alloc (.cells #[.int .i64 2, .string s, .int .i64 n, .int .u64 re, .int .u64 im, .slice A len cap] 25)).heap.size (F0 + 4) = o2 at *
    simp only [World.size_alloc] at kZ
    have hT := TmS.keep y2 (by simp) _ _ (TmS.keep y1 (by simp) _ _ h)
    have k2 := kb.keep y2 (by simp)
    have hcall := plainOne_leaf _ 2 n re im s args A len cap _ hT (by decide) (by decide)
    rw [show cl (.mk 2 s n re im []) = .atom s from rfl] at hcall
    have HX := Lib.hid (And.intro x2 (And.intro hcall kZ))
    clear h hL x1 x2 y1 y2 kb hFF hf hk hcall hT ih hM hrr hVr kZ
    have c0 := k2.cell 0 rfl; have c1 := k2.cell 1 rfl; have c2 := k2.cell 2 rfl; have c3 := k2.cell 3 rfl; have c4 := k2.cell 4 rfl; have c5 := k2.cell 5 rfl
    go_enter Try.func108, Try.ntmps108
    go_wp2_with (go_at_call 151; refine Calls.mono HX.out.2.1 ?_; rintro e3 w3 ⟨own3, x3, A3, l3, cp3, (rfl : e3 = .returned (.agg #[.int .i64 (un (.atom s)).kind, .string (un (.atom s)).name, .int .i64 (un (.atom s)).int, .int .u64 (un (.atom s)).re, .int .u64 (un (.atom s)).im, .slice A3 l3 cp3])), hT3⟩; obtain ⟨x4, k4, y4⟩ := (HX.out.1.trans x3).box [.int .i64 (un (.atom s)).kind, .string (un (.atom s)).name, .int .i64 (un (.atom s)).int, .int .u64 (un (.atom s)).re, .int .u64 (un (.atom s)).im, .slice A3 l3 cp3] 25 0; have kZ4 := (HX.out.2.2.keep x3 (by simp)).keep y4 (by simp); have hT4 := TmS.keep y4 (by simp) _ _ hT3; have kX4 := (k2.keep x3 (by simp)).keep y4 (by simp); have b0 := kZ4.cell 0 rfl; have b1 := kZ4.cell 1 rfl; have b2 := kZ4.cell 2 rfl; have b3 := kZ4.cell 3 rfl; have b4 := kZ4.cell 4 rfl; have b5 := kZ4.cell 5 rfl; have bf0 := kZ4.free 0; have bf1 := kZ4.free 1; have bf2 := kZ4.free 2; have bf3 := kZ4.free 3; have bf4 := kZ4.free 4; have bf5 := kZ4.free 5; have e0 := k4.cell 0 rfl; have e1 := k4.cell 1 rfl; have e2 := k4.cell 2 rfl; have e3 := k4.cell 3 rfl; have e4 := k4.cell 4 rfl; have e5 := k4.cell 5 rfl; have q0 := kX4.cell 0 rfl; have q1 := kX4.cell 1 rfl; have q2 := kX4.cell 2 rfl; have q3 := kX4.cell 3 rfl; have q4 := kX4.cell 4 rfl; have q5 := kX4.cell 5 rfl)
    have HE := Lib.hid (store_res (v0 := .int .i64 (un (.atom s)).kind) (v1 := .string (un (.atom s)).name) (v2 := .int .i64 (un (.atom s)).int) (v3 := .int .u64 (un (.atom s)).re) (v4 := .int .u64 (un (.atom s)).im) (v5 := .slice A3 l3 cp3) x4 (by omega) kZ4 (by omega) hT4)
    (try simp only [Exit.inBlock, Exit.then])
    refine bodyPost_ret (v := .agg #[.int .i64 (un (.atom s)).kind, .string (un (.atom s)).name, .int .i64 (un (.atom s)).int, .int .u64 (un (.atom s)).re, .int .u64 (un (.atom s)).im, .slice A3 l3 cp3]) ?_ rfl ?_
    · rw [results_cell1 rfl]
      have kk := HE.out.2.2
      have z0 := kk.cell 0 rfl
      have z1 := kk.cell 1 rfl
      have z2 := kk.cell 2 rfl
      have z3 := kk.cell 3 rfl
      have z4 := kk.cell 4 rfl
      have z5 := kk.cell 5 rfl
      go_simp
      try rfl
    · exact ⟨_, HE.out.1, A3, l3, cp3, rfl, HE.out.2.1⟩
  · rw [e]
    change Calls _ _ _ _ (MadeT own w (.int n))
    obtain ⟨x2, kZ, y2⟩ := x1.box [.int .i64 0, .string ByteArray.empty, .int .i64 0, .int .u64 0, .int .u64 0, .slice none 0 0] 25 (F0 + 4)
    generalize _root_.Go.Proofs.Ytlmcfclonncgbaa.give o1 (w.alloc (.cells #[.int .i64 3, .string s, .int .i64 n, .int .u64 re, .int .u64 im, .slice A len cap] 25)).heap.size (F0 + 4) = o2 at *
    simp only [World.size_alloc] at kZ
    have hT := TmS.keep y2 (by simp) _ _ (TmS.keep y1 (by simp) _ _ h)
    have k2 := kb.keep y2 (by simp)
    have hcall := plainOne_leaf _ 3 n re im s args A len cap _ hT (by decide) (by decide)
    rw [show cl (.mk 3 s n re im []) = .int n from rfl] at hcall
    have HX := Lib.hid (And.intro x2 (And.intro hcall kZ))
    clear h hL x1 x2 y1 y2 kb hFF hf hk hcall hT ih hM hrr hVr kZ
    have c0 := k2.cell 0 rfl; have c1 := k2.cell 1 rfl; have c2 := k2.cell 2 rfl; have c3 := k2.cell 3 rfl; have c4 := k2.cell 4 rfl; have c5 := k2.cell 5 rfl
    go_enter Try.func108, Try.ntmps108
    go_wp2_with (go_at_call 151; refine Calls.mono HX.out.2.1 ?_; rintro e3 w3 ⟨own3, x3, A3, l3, cp3, (rfl : e3 = .returned (.agg #[.int .i64 (un (.int n)).kind, .string (un (.int n)).name, .int .i64 (un (.int n)).int, .int .u64 (un (.int n)).re, .int .u64 (un (.int n)).im, .slice A3 l3 cp3])), hT3⟩; obtain ⟨x4, k4, y4⟩ := (HX.out.1.trans x3).box [.int .i64 (un (.int n)).kind, .string (un (.int n)).name, .int .i64 (un (.int n)).int, .int .u64 (un (.int n)).re, .int .u64 (un (.int n)).im, .slice A3 l3 cp3] 25 0; have kZ4 := (HX.out.2.2.keep x3 (by simp)).keep y4 (by simp); have hT4 := TmS.keep y4 (by simp) _ _ hT3; have kX4 := (k2.keep x3 (by simp)).keep y4 (by simp); have b0 := kZ4.cell 0 rfl; have b1 := kZ4.cell 1 rfl; have b2 := kZ4.cell 2 rfl; have b3 := kZ4.cell 3 rfl; have b4 := kZ4.cell 4 rfl; have b5 := kZ4.cell 5 rfl; have bf0 := kZ4.free 0; have bf1 := kZ4.free 1; have bf2 := kZ4.free 2; have bf3 := kZ4.free 3; have bf4 := kZ4.free 4; have bf5 := kZ4.free 5; have e0 := k4.cell 0 rfl; have e1 := k4.cell 1 rfl; have e2 := k4.cell 2 rfl; have e3 := k4.cell 3 rfl; have e4 := k4.cell 4 rfl; have e5 := k4.cell 5 rfl; have q0 := kX4.cell 0 rfl; have q1 := kX4.cell 1 rfl; have q2 := kX4.cell 2 rfl; have q3 := kX4.cell 3 rfl; have q4 := kX4.cell 4 rfl; have q5 := kX4.cell 5 rfl)
    have HE := Lib.hid (store_res (v0 := .int .i64 (un (.int n)).kind) (v1 := .string (un (.int n)).name) (v2 := .int .i64 (un (.int n)).int) (v3 := .int .u64 (un (.int n)).re) (v4 := .int .u64 (un (.int n)).im) (v5 := .slice A3 l3 cp3) x4 (by omega) kZ4 (by omega) hT4)
    (try simp only [Exit.inBlock, Exit.then])
    refine bodyPost_ret (v := .agg #[.int .i64 (un (.int n)).kind, .string (un (.int n)).name, .int .i64 (un (.int n)).int, .int .u64 (un (.int n)).re, .int .u64 (un (.int n)).im, .slice A3 l3 cp3]) ?_ rfl ?_
    · rw [results_cell1 rfl]
      have kk := HE.out.2.2
      have z0 := kk.cell 0 rfl
      have z1 := kk.cell 1 rfl
      have z2 := kk.cell 2 rfl
      have z3 := kk.cell 3 rfl
      have z4 := kk.cell 4 rfl
      have z5 := kk.cell 5 rfl
      go_simp
      try rfl
    · exact ⟨_, HE.out.1, A3, l3, cp3, rfl, HE.out.2.1⟩
  · rw [e]
    change Calls _ _ _ _ (MadeT own w (.cpx re im))
    obtain ⟨x2, kZ, y2⟩ := x1.box [.int .i64 0, .string ByteArray.empty, .int .i64 0, .int .u64 0, .int .u64 0, .slice none 0 0] 25 (F0 + 4)
    generalize _root_.Go.Proofs.Ytlmcfclonncgbaa.give o1 (w.alloc (.cells #[.int .i64 4, .string s, .int .i64 n, .int .u64 re, .int .u64 im, .slice A len cap] 25)).heap.size (F0 + 4) = o2 at *
    simp only [World.size_alloc] at kZ
    have hT := TmS.keep y2 (by simp) _ _ (TmS.keep y1 (by simp) _ _ h)
    have k2 := kb.keep y2 (by simp)
    have hcall := plainOne_leaf _ 4 n re im s args A len cap _ hT (by decide) (by decide)
    rw [show cl (.mk 4 s n re im []) = .cpx re im from rfl] at hcall
    have HX := Lib.hid (And.intro x2 (And.intro hcall kZ))
    clear h hL x1 x2 y1 y2 kb hFF hf hk hcall hT ih hM hrr hVr kZ
    have c0 := k2.cell 0 rfl; have c1 := k2.cell 1 rfl; have c2 := k2.cell 2 rfl; have c3 := k2.cell 3 rfl; have c4 := k2.cell 4 rfl; have c5 := k2.cell 5 rfl
    go_enter Try.func108, Try.ntmps108
    go_wp2_with (go_at_call 151; refine Calls.mono HX.out.2.1 ?_; rintro e3 w3 ⟨own3, x3, A3, l3, cp3, (rfl : e3 = .returned (.agg #[.int .i64 (un (.cpx re im)).kind, .string (un (.cpx re im)).name, .int .i64 (un (.cpx re im)).int, .int .u64 (un (.cpx re im)).re, .int .u64 (un (.cpx re im)).im, .slice A3 l3 cp3])), hT3⟩; obtain ⟨x4, k4, y4⟩ := (HX.out.1.trans x3).box [.int .i64 (un (.cpx re im)).kind, .string (un (.cpx re im)).name, .int .i64 (un (.cpx re im)).int, .int .u64 (un (.cpx re im)).re, .int .u64 (un (.cpx re im)).im, .slice A3 l3 cp3] 25 0; have kZ4 := (HX.out.2.2.keep x3 (by simp)).keep y4 (by simp); have hT4 := TmS.keep y4 (by simp) _ _ hT3; have kX4 := (k2.keep x3 (by simp)).keep y4 (by simp); have b0 := kZ4.cell 0 rfl; have b1 := kZ4.cell 1 rfl; have b2 := kZ4.cell 2 rfl; have b3 := kZ4.cell 3 rfl; have b4 := kZ4.cell 4 rfl; have b5 := kZ4.cell 5 rfl; have bf0 := kZ4.free 0; have bf1 := kZ4.free 1; have bf2 := kZ4.free 2; have bf3 := kZ4.free 3; have bf4 := kZ4.free 4; have bf5 := kZ4.free 5; have e0 := k4.cell 0 rfl; have e1 := k4.cell 1 rfl; have e2 := k4.cell 2 rfl; have e3 := k4.cell 3 rfl; have e4 := k4.cell 4 rfl; have e5 := k4.cell 5 rfl; have q0 := kX4.cell 0 rfl; have q1 := kX4.cell 1 rfl; have q2 := kX4.cell 2 rfl; have q3 := kX4.cell 3 rfl; have q4 := kX4.cell 4 rfl; have q5 := kX4.cell 5 rfl)
    have HE := Lib.hid (store_res (v0 := .int .i64 (un (.cpx re im)).kind) (v1 := .string (un (.cpx re im)).name) (v2 := .int .i64 (un (.cpx re im)).int) (v3 := .int .u64 (un (.cpx re im)).re) (v4 := .int .u64 (un (.cpx re im)).im) (v5 := .slice A3 l3 cp3) x4 (by omega) kZ4 (by omega) hT4)
    (try simp only [Exit.inBlock, Exit.then])
    refine bodyPost_ret (v := .agg #[.int .i64 (un (.cpx re im)).kind, .string (un (.cpx re im)).name, .int .i64 (un (.cpx re im)).int, .int .u64 (un (.cpx re im)).re, .int .u64 (un (.cpx re im)).im, .slice A3 l3 cp3]) ?_ rfl ?_
    · rw [results_cell1 rfl]
      have kk := HE.out.2.2
      have z0 := kk.cell 0 rfl
      have z1 := kk.cell 1 rfl
      have z2 := kk.cell 2 rfl
      have z3 := kk.cell 3 rfl
      have z4 := kk.cell 4 rfl
      have z5 := kk.cell 5 rfl
      go_simp
      try rfl
    · exact ⟨_, HE.out.1, A3, l3, cp3, rfl, HE.out.2.1⟩
  · rw [e]
    change Calls _ _ _ _ (MadeT own w (.comp s (substs (numG V) (cls args))))
    obtain ⟨hl20, hfa⟩ := fine_slim hf rfl
    replace hl20 : args.length ≤ 20 := hl20
    replace hfa : ∀ a ∈ args, fine (cl a) := hfa
    have hka := kargs hk rfl
    have hlt0 : ∀ b, b < w.heap.size → own b < F0 := hFF
    obtain ⟨x2, kZ, y2⟩ := x1.box [.int .i64 0, .string ByteArray.empty, .int .i64 0, .int .u64 0, .int .u64 0, .slice none 0 0] 25 (F0 + 4)
    generalize _root_.Go.Proofs.Ytlmcfclonncgbaa.give o1 (w.alloc (.cells #[.int .i64 5, .string s, .int .i64 n, .int .u64 re, .int .u64 im, .slice A len cap] 25)).heap.size (F0 + 4) = o2 at *
    simp only [World.size_alloc] at kZ
    have kb2 := kb.keep y2 (by simp)
    have hL2 : TmL _ _ args A len cap := hL.keep y2 (by simp)
    have hcall := plainOne_comp o2 s n re im A len cap ((w.alloc (.cells #[.int .i64 5, .string s, .int .i64 n, .int .u64 re, .int .u64 im, .slice A len cap] 25)).alloc (.cells #[.int .i64 0, .string ByteArray.empty, .int .i64 0, .int .u64 0, .int .u64 0, .slice none 0 0] 25))
    have HP0 := Lib.hid (And.intro hcall (And.intro x2 (And.intro kZ (And.intro hL2 (And.intro kb2 (And.intro hlen (And.intro hl20 (And.intro hfa (And.intro hka hlt0)))))))))
    have HIH := Lib.hid ih
    have HMV := Lib.hid hM
    have klt := kb.lt
    have hle := hL.2.1
    have HR := Lib.hid (show Rng 5 0 0 0 s from ⟨by decide, by decide, by decide, by decide, hrr.2.2.2.2⟩)
    have hlen20 : len ≤ 20 := by omega
    have c0 := kb2.cell 0 rfl; have c1 := kb2.cell 1 rfl; have c2 := kb2.cell 2 rfl; have c3 := kb2.cell 3 rfl; have c4 := kb2.cell 4 rfl; have c5 := kb2.cell 5 rfl
    clear x1 x2 y1 y2 kZ kb kb2 hL hL2 hFF hlt0 ih h hown hk hf hfa hka hrr hl20 hlen hM hVr hcall
    go_enter Try.func108, Try.ntmps108
    go_wp2_with fail
    refine Calls.mono HP0.out.1 ?_
    rintro e3 wq ⟨oq, xq, rfl⟩
    obtain ⟨_, x2, kZ, hL2, kb2, hlen, hl20, hfa, hka, hlt0⟩ := HP0.out
    obtain ⟨xo, kB, yo⟩ := (x2.trans xq).box [.int .i64 5, .string s, .int .i64 0, .int .u64 0, .int .u64 0, .slice none 0 0] 25 (F0 + 1)
    have HL0 : TmL _ _ args A len cap := (hL2.keep xq (by simp)).keep yo (by simp)
    have kX := (kb2.keep xq (by simp)).keep yo (by simp)
    have kZ2 := (kZ.keep xq (by simp)).keep yo (by simp)
    generalize _root_.Go.Proofs.Ytlmcfclonncgbaa.give oq wq.heap.size (F0 + 1) = o3 at *
    have g0 := kX.cell 0 rfl
    have g1 := kX.cell 1 rfl
    have g2 := kX.cell 2 rfl
    have g3 := kX.cell 3 rfl
    have g4 := kX.cell 4 rfl
    have g5 := kX.cell 5 rfl
    clear x2 kZ hL2 kb2 xq HP0 yo
    go_wp2_with fail
    obtain ⟨W0, hW0⟩ : ∃ W0, wq.alloc (.cells #[.int .i64 5, .string s, .int .i64 0, .int .u64 0, .int .u64 0, .slice none 0 0] 25) = W0 := ⟨_, rfl⟩
    change Blk o3 _ (wq.alloc (.cells #[.int .i64 5, .string s, .int .i64 0, .int .u64 0, .int .u64 0, .slice none 0 0] 25)) _ _ _ at kB
    change TmL o3 (wq.alloc (.cells #[.int .i64 5, .string s, .int .i64 0, .int .u64 0, .int .u64 0, .slice none 0 0] 25)) _ _ _ _ at HL0
    change Blk o3 _ (wq.alloc (.cells #[.int .i64 5, .string s, .int .i64 0, .int .u64 0, .int .u64 0, .slice none 0 0] 25)) _ _ _ at kX
    change Blk o3 _ (wq.alloc (.cells #[.int .i64 5, .string s, .int .i64 0, .int .u64 0, .int .u64 0, .slice none 0 0] 25)) _ _ _ at kZ2
    change Ext own o3 [] w (wq.alloc (.cells #[.int .i64 5, .string s, .int .i64 0, .int .u64 0, .int .u64 0, .slice none 0 0] 25)) at xo
    clear g0 g1 g2 g3 g4 g5
    rw [hW0] at kB HL0 kX kZ2 xo ⊢
    have HZ := Lib.hid kZ2
    have HL := Lib.hid (And.intro HL0 (And.intro hlen (And.intro hl20 (And.intro hfa hka))))
    have HO := Lib.hid (And.intro xo (And.intro kB hlt0))
    clear hlen hl20 hfa hka hlt0 xo kB HL0 kX kZ2
    go_loopw [24] (fun u wr => ∃ (l : List (Tm × Value)) (v : Value) (own' : Nat → Nat), u = .int .i64 l.length ∧ l.length ≤ len ∧ Ext o3 own' [F0 + 1, F0 + 2] W0 wr ∧ Blk own' (F0 + 1) wr (wq.heap.size) [.int .i64 5, .string s, .int .i64 0, .int .u64 0, .int .u64 0, v] 25 ∧ Row own' (F0 + 2) wr 25 6 v l.length (termCells l) ∧ (∀ z ∈ l, TmS own' wr z.1 z.2) ∧ l.map (·.1) = (args.take l.length).map (fun a => un (subst (numG V) (cl a)))) (fun u _ => len - (intOf u).toNat)
    case atStart => subst hW0; exact ⟨[], _, o3, rfl, Nat.zero_le _, Ext.refl _ _ _, HO.out.2.1, Row.nil _ _ _ _ _, by simp, rfl⟩
    case round =>
      obtain ⟨l, v, own', rfl, hj, x, kB1, hr1, hT1, hmap⟩ := hrel
      by_cases hlt : l.length < len
      · have hLr := HL.out.1.keep x (by simp)
        obtain ⟨b, o, rfl⟩ := hLr.addr (by omega)
        obtain ⟨tt, sl, ht, hTt, e0, e1, e2, e3, e4, e5⟩ := hLr.at l.length hlt
        have hmem := List.mem_of_getElem? ht
        obtain ⟨A', l', cp', rfl, _⟩ := hTt.args
        obtain ⟨xb, kE, yE⟩ := x.box [.int .i64 tt.kind, .string tt.name, .int .i64 tt.int, .int .u64 tt.re, .int .u64 tt.im, .slice A' l' cp'] 25 (F0 + 3)
        have kB2 := kB1.keep yE (by simp)
        have hr2 := hr1.keep yE (by simp)
        have hT2 := fun z hz => TmS.keep yE (by simp) z.1 _ (hT1 z hz)
        have hTt2 := TmS.keep yE (by simp) tt _ hTt
        generalize _root_.Go.Proofs.Ytlmcfclonncgbaa.give own' wr.heap.size (F0 + 3) = o4 at *
        obtain ⟨W2, hW2⟩ : ∃ W2, wr.alloc (.cells #[.int .i64 tt.kind, .string tt.name, .int .i64 tt.int, .int .u64 tt.re, .int .u64 tt.im, .slice A' l' cp'] 25) = W2 := ⟨_, rfl⟩
        change Blk o4 _ (wr.alloc (.cells #[.int .i64 tt.kind, .string tt.name, .int .i64 tt.int, .int .u64 tt.re, .int .u64 tt.im, .slice A' l' cp'] 25)) _ _ _ at kE
        change Blk o4 _ (wr.alloc (.cells #[.int .i64 tt.kind, .string tt.name, .int .i64 tt.int, .int .u64 tt.re, .int .u64 tt.im, .slice A' l' cp'] 25)) _ _ _ at kB2
        change Row o4 _ (wr.alloc (.cells #[.int .i64 tt.kind, .string tt.name, .int .i64 tt.int, .int .u64 tt.re, .int .u64 tt.im, .slice A' l' cp'] 25)) _ _ _ _ _ at hr2
        change ∀ z ∈ l, TmS o4 (wr.alloc (.cells #[.int .i64 tt.kind, .string tt.name, .int .i64 tt.int, .int .u64 tt.re, .int .u64 tt.im, .slice A' l' cp'] 25)) z.1 z.2 at hT2
        change TmS o4 (wr.alloc (.cells #[.int .i64 tt.kind, .string tt.name, .int .i64 tt.int, .int .u64 tt.re, .int .u64 tt.im, .slice A' l' cp'] 25)) tt _ at hTt2
        change Ext o3 o4 _ W0 (wr.alloc (.cells #[.int .i64 tt.kind, .string tt.name, .int .i64 tt.int, .int .u64 tt.re, .int .u64 tt.im, .slice A' l' cp'] 25)) at xb
        rw [hW2] at kE kB2 hr2 hT2 hTt2 xb
        obtain ⟨A1, cp1, rfl, hcp⟩ := hr2.form
        have hTd : TmS o4 W2.drew tt (.slice A' l' cp') := TmS.keep (Ext.refl o4 [] W2).drew (by simp) tt _ hTt2
        have hcall := HIH.out tt hmem _ o4 W2.drew hTd (HL.out.2.2.2.2 tt hmem) (HL.out.2.2.2.1 tt hmem) (HMV.out.keep ((HO.out.1.mono (jds := [F0 + 1, F0 + 2]) (by simp)).trans xb).drew hidn)
        rw [show valT tt (.slice A' l' cp') = .agg #[.int .i64 tt.kind, .string tt.name, .int .i64 tt.int, .int .u64 tt.re, .int .u64 tt.im, .slice A' l' cp'] from rfl] at hcall
        have HC := Lib.hid hcall
        have hstep := take_step (fun a => un (subst (numG V) (cl a))) args l.length tt ht
        rw [← hmap] at hstep
        have HM := Lib.hid hstep
        have HT2 := Lib.hid hT2
        have HS : W2.drew.cell? ⟨wq.heap.size, 5, none⟩ = some (.slice A1 l.length cp1) := kB2.cell 5 rfl
        have g0 : W2.drew.cell? ⟨wr.heap.size, 0, none⟩ = some (.int .i64 tt.kind) := kE.cell 0 rfl
        have g1 : W2.drew.cell? ⟨wr.heap.size, 1, none⟩ = some (.string tt.name) := kE.cell 1 rfl
        have g2 : W2.drew.cell? ⟨wr.heap.size, 2, none⟩ = some (.int .i64 tt.int) := kE.cell 2 rfl
        have g3 : W2.drew.cell? ⟨wr.heap.size, 3, none⟩ = some (.int .u64 tt.re) := kE.cell 3 rfl
        have g4 : W2.drew.cell? ⟨wr.heap.size, 4, none⟩ = some (.int .u64 tt.im) := kE.cell 4 rfl
        have g5 : W2.drew.cell? ⟨wr.heap.size, 5, none⟩ = some (.slice A' l' cp') := kE.cell 5 rfl
        have hl72 : (l.length + 1) * 72 ≤ 140737488355328 := by omega
        have HXB := Lib.hid xb
        clear hcall hstep hmap hT2 hT1 hTd hTt hTt2 hLr x kB1 hr1 xb yE kE ht hmem
        go_wp2_with fail
        refine wp_calmN ?_
        refine wp_region_till 6 (fun W => W.cell? ⟨wq.heap.size, 5, none⟩ = some (.slice A1 l.length cp1)) (by kernel_rfl) ?_
        refine wpTill_free 0 (v := ?_) rfl (by kernel_rfl) (by kernel_rfl) (by kernel_rfl) (by kernel_rfl) (fun _ _ _ h => h) rfl (fun _ => HS) ?_ ?_
        rotate_left 1
        · intro w; go_simp; try with_reducible rfl
        try simp only [Act.put, List.setIfInBounds_toArray, List.set_cons_zero, List.set_cons_succ, List.getElem_toArray, List.getElem_cons_succ, List.getElem_cons_zero]
        refine wpTill_take 1 (v := ?_) rfl (by kernel_rfl) (by kernel_rfl) (by kernel_rfl) (by kernel_rfl) (by kernel_rfl) (fun _ _ _ h => h) rfl HS ?_ ?_
        rotate_left 1
        · intro w hSw; go_split_ands; go_simp; try with_reducible rfl
        try simp only [Act.put, List.setIfInBounds_toArray, List.set_cons_zero, List.set_cons_succ, List.getElem_toArray, List.getElem_cons_succ, List.getElem_cons_zero]
        refine wpTill_free 3 (v := ?_) rfl (by kernel_rfl) (by kernel_rfl) (by kernel_rfl) (by kernel_rfl) (fun _ _ _ h => h) rfl (fun _ => HS) ?_ ?_
        rotate_left 1
        · intro w; go_simp; try with_reducible rfl
        try simp only [Act.put, List.setIfInBounds_toArray, List.set_cons_zero, List.set_cons_succ, List.getElem_toArray, List.getElem_cons_succ, List.getElem_cons_zero]
        refine wpTill_one 2 rfl (by kernel_rfl) rfl (fun K hK => ?_)
        go_simp
        refine hK.out _ _ (fun _ => HS) ?_
        clear hK K
        try simp only [Act.put, List.setIfInBounds_toArray, List.set_cons_zero, List.set_cons_succ, List.getElem_toArray, List.getElem_cons_succ, List.getElem_cons_zero]
        refine wpTill_one 4 rfl (by kernel_rfl) rfl (fun K hK => ?_)
        go_simp
        refine Calls.mono HC.out ?_
        rintro e w3 ⟨own3, x3, A3, l3, cp3, (rfl : e = .returned (.agg #[.int .i64 (un (subst (numG V) (cl tt))).kind, .string (un (subst (numG V) (cl tt))).name, .int .i64 (un (subst (numG V) (cl tt))).int, .int .u64 (un (subst (numG V) (cl tt))).re, .int .u64 (un (subst (numG V) (cl tt))).im, .slice A3 l3 cp3])), hTn⟩
        replace x3 := x3.ofDraw
        have kB3 := kB2.keep x3 (by simp)
        have hr3 := hr2.keep x3 (by simp)
        have HAPP := Lib.hid (fun (o : Oper) (a : Act) (K : Act → World → Prop) (Q : Exit → Act → World → Prop) (ho : o.op = .call { callee := .builtin .append, args := #[.tmp 29, .tmp 33], argTypes := #[23, 23] }) (hs : a.eval (.tmp 29) = .slice A1 l.length cp1) (hx : a.eval (.tmp 33) = .slice (some ⟨w3.heap.size, 0, none⟩) 1 1) => wp_append_row (P := Try.prog) (Q := Q) (K := K) (.tmp 29) (.tmp 33) 23 ho 25 (.agg #[.int .i64 0, .string ByteArray.empty, .int .i64 0, .int .u64 0, .int .u64 0, .slice none 0 0]) 6 72 Try.underlying23 info_term rfl (by decide) (by decide) w3 (cellsT (un (subst (numG V) (cl tt))) (.slice A3 l3 cp3)) rfl hs hx rfl (cellsT_one _ _ _ _) hr3 hl72)
        refine hK.out _ _ (fun _ => kB3.cell 5 rfl) ?_
        clear hK K
        try simp only [Act.put, List.setIfInBounds_toArray, List.set_cons_zero, List.set_cons_succ, List.getElem_toArray, List.getElem_cons_succ, List.getElem_cons_zero]
        refine wpTill_one 5 rfl (by kernel_rfl) rfl (fun K hK => ?_)
        go_simp
        refine hK.out _ _ (fun _ => Blk.cell (kB3.alloc _) 5 rfl) ?_
        clear hK K
        try simp only [Act.put, List.setIfInBounds_toArray, List.set_cons_zero, List.set_cons_succ, List.getElem_toArray, List.getElem_cons_succ, List.getElem_cons_zero]
        refine wpTill_one 6 rfl (by kernel_rfl) rfl (fun K hK => ?_)
        refine HAPP.out _ _ _ _ rfl rfl rfl ?_
        intro gg cp2 w5 own5 kr5 xe5 ko5 kb5
        have kB5 := kB3.keep xe5 (by simp)
        have fB5 := kB5.free 5
        have cB5 := kB5.cell 5 rfl
        refine hK.out _ _ (Till.gone (by kernel_rfl)) ?_
        clear hK K
        try simp only [Act.put, List.setIfInBounds_toArray, List.set_cons_zero, List.set_cons_succ, List.getElem_toArray, List.getElem_cons_succ, List.getElem_cons_zero]
        refine wpTill_free 7 (v := ?_) rfl (by kernel_rfl) (by kernel_rfl) (by kernel_rfl) (by kernel_rfl) (fun _ _ _ h => h) rfl (Till.gone (by kernel_rfl)) ?_ ?_
        rotate_left 1
        · intro w; go_simp; try with_reducible rfl
        try simp only [Act.put, List.setIfInBounds_toArray, List.set_cons_zero, List.set_cons_succ, List.getElem_toArray, List.getElem_cons_succ, List.getElem_cons_zero]
        refine wpTill_one 8 rfl (by kernel_rfl) rfl (fun K hK => ?_)
        go_simp
        refine hK.out _ _ (Till.gone (by kernel_rfl)) ?_
        clear hK K
        try simp only [Act.put, List.setIfInBounds_toArray, List.set_cons_zero, List.set_cons_succ, List.getElem_toArray, List.getElem_cons_succ, List.getElem_cons_zero]
        refine wpTill_done (by kernel_rfl) ?_ _
        have hne : Value.ownBlock (.slice (some ⟨gg, 0, none⟩) (l.length + 1) cp2) ≠ some (wq.heap.size) := by
          intro h
          simp [Value.ownBlock] at h
          have h1 := kr5.2 gg rfl
          have h2 := kB5.2
          rw [h] at h1
          omega
        have y6 : Ext own5 own5 [F0 + 1] w5 (w5.setCell ⟨wq.heap.size, 5, none⟩ (.slice (some ⟨gg, 0, none⟩) (l.length + 1) cp2)) := (Ext.refl own5 [F0 + 1] w5).setCell _ _ (fun _ => by show own5 (wq.heap.size) ∈ _; rw [kB5.2]; simp)
        have kB6 := Blk.set kB5 5 (.slice (some ⟨gg, 0, none⟩) (l.length + 1) cp2)
        have hr6 := kr5.far (p := ⟨wq.heap.size, 5, none⟩) hne (.slice (some ⟨gg, 0, none⟩) (l.length + 1) cp2)
        have hTl : ∀ z ∈ l ++ [(un (subst (numG V) (cl tt)), Value.slice A3 l3 cp3)], TmS own5 (w5.setCell ⟨wq.heap.size, 5, none⟩ (.slice (some ⟨gg, 0, none⟩) (l.length + 1) cp2)) z.1 z.2 := by
          intro z hz
          rcases List.mem_append.1 hz with hz | hz
          · exact TmS.keep y6 (by simp) z.1 _ (TmS.keep xe5 (by simp) z.1 _ (TmS.keep x3 (by simp) z.1 _ (HT2.out z hz)))
          · simp at hz
            subst hz
            exact TmS.keep y6 (by simp) _ _ (TmS.keep xe5 (by simp) _ _ hTn)
        have X6 := ((HXB.out.trans (x3.mono (by simp))).trans (xe5.mono (by simp))).trans (y6.mono (by simp))
        have e1 : (l ++ [(un (subst (numG V) (cl tt)), Value.slice A3 l3 cp3)]).length = l.length + 1 := by simp
        have e2 : termCells (l ++ [(un (subst (numG V) (cl tt)), Value.slice A3 l3 cp3)]) = termCells l ++ cellsT (un (subst (numG V) (cl tt))) (.slice A3 l3 cp3) := by rw [termCells_append]; simp [termCells]
        have HF := Lib.hid (And.intro X6 (And.intro kB6 (And.intro hr6 (And.intro hTl (And.intro e1 e2)))))
        clear hTl X6 kB6 hr6 y6 hne kr5 xe5 ko5 kb5 kB5 x3 hTn HAPP hr3 kB3
        go_wp2_with fail
        go_roundw
        case measure => simp [intOf]; omega
        refine ⟨l ++ [(un (subst (numG V) (cl tt)), Value.slice A3 l3 cp3)], (.slice (some ⟨gg, 0, none⟩) (l.length + 1) cp2), own5, by rw [HF.out.2.2.2.2.1]; go_num, by rw [HF.out.2.2.2.2.1]; omega, HF.out.1, ?_, ?_, HF.out.2.2.2.1, ?_⟩
        · exact HF.out.2.1
        · rw [HF.out.2.2.2.2.1, HF.out.2.2.2.2.2]; exact HF.out.2.2.1
        · rw [HF.out.2.2.2.2.1, List.map_append]; exact HM.out
      · obtain rfl : l.length = len := by omega
        obtain ⟨own9, A9, cap9, rfl, hL9, ho9, hx9⟩ := hr1.terms hT1
        have hmap2 : l.map (·.1) = uns (substs (numG V) (cls args)) := by
          rw [hmap, uns_map, substs_map, cls_map, List.map_map, List.map_map, List.take_of_length_le (by rw [HL.out.2.1]; exact Nat.le_refl _)]
          rfl
        have hfin : TmS own9 wr (un (.comp s (substs (numG V) (cls args)))) (.slice A9 l.length cap9) := by
          show TmS own9 wr (.mk 5 s 0 0 0 (uns (substs (numG V) (cls args)))) _
          rw [← hmap2]
          exact hL9.comp HR.out
        have hX9 : Ext own own9 [] w wr := by
          have x0 := (HO.out.1.mono (jds := [F0 + 1, F0 + 2]) (by simp)).trans x
          have x1 := hx9 own _ w x0 (fun b hb => by have := HO.out.2.2 b hb; omega)
          exact ⟨x1.os, x1.tape, x1.output, x1.size, x1.own, fun b hb _ => x1.block b hb (by have := HO.out.2.2 b hb; simp; omega)⟩
        have f0 := kB1.cell 0 rfl
        have f1 := kB1.cell 1 rfl
        have f2 := kB1.cell 2 rfl
        have f3 := kB1.cell 3 rfl
        have f4 := kB1.cell 4 rfl
        have f5 := kB1.cell 5 rfl
        have kZ9 : Blk own9 (F0 + 4) wr (w.heap.size + 1) [.int .i64 0, .string ByteArray.empty, .int .i64 0, .int .u64 0, .int .u64 0, .slice none 0 0] 25 := by
          have := HZ.out.keep x (by simp)
          exact ⟨this.1, by rw [ho9 _ (by rw [this.2]; omega)]; exact this.2⟩
        have hc9 : own9 (w.heap.size + 1) ∈ [F0 + 4] := by rw [kZ9.2]; simp
        have hnl : ¬ (w.heap.size + 1 < w.heap.size) := by omega
        have y0 : Ext own9 own9 [F0 + 4] wr (((((((wr).setCell ⟨w.heap.size + 1, 0, none⟩ (.int .i64 5)).setCell ⟨w.heap.size + 1, 1, none⟩ (.string s)).setCell ⟨w.heap.size + 1, 2, none⟩ (.int .i64 0)).setCell ⟨w.heap.size + 1, 3, none⟩ (.int .u64 0)).setCell ⟨w.heap.size + 1, 4, none⟩ (.int .u64 0)).setCell ⟨w.heap.size + 1, 5, none⟩ (.slice A9 l.length cap9)) := ((((((Ext.refl own9 [F0 + 4] wr).setCell ⟨w.heap.size + 1, 0, none⟩ _ (fun _ => hc9)).setCell ⟨w.heap.size + 1, 1, none⟩ _ (fun _ => hc9)).setCell ⟨w.heap.size + 1, 2, none⟩ _ (fun _ => hc9)).setCell ⟨w.heap.size + 1, 3, none⟩ _ (fun _ => hc9)).setCell ⟨w.heap.size + 1, 4, none⟩ _ (fun _ => hc9)).setCell ⟨w.heap.size + 1, 5, none⟩ _ (fun _ => hc9)
        have hfin2 := TmS.keep y0 (by simp) _ _ hfin
        have hX10 : Ext own own9 [] w (((((((wr).setCell ⟨w.heap.size + 1, 0, none⟩ (.int .i64 5)).setCell ⟨w.heap.size + 1, 1, none⟩ (.string s)).setCell ⟨w.heap.size + 1, 2, none⟩ (.int .i64 0)).setCell ⟨w.heap.size + 1, 3, none⟩ (.int .u64 0)).setCell ⟨w.heap.size + 1, 4, none⟩ (.int .u64 0)).setCell ⟨w.heap.size + 1, 5, none⟩ (.slice A9 l.length cap9)) := ((((((hX9).setCell ⟨w.heap.size + 1, 0, none⟩ _ (fun h => absurd h hnl)).setCell ⟨w.heap.size + 1, 1, none⟩ _ (fun h => absurd h hnl)).setCell ⟨w.heap.size + 1, 2, none⟩ _ (fun h => absurd h hnl)).setCell ⟨w.heap.size + 1, 3, none⟩ _ (fun h => absurd h hnl)).setCell ⟨w.heap.size + 1, 4, none⟩ _ (fun h => absurd h hnl)).setCell ⟨w.heap.size + 1, 5, none⟩ _ (fun h => absurd h hnl)
        have kZ10 : Blk own9 (F0 + 4) (((((((wr).setCell ⟨w.heap.size + 1, 0, none⟩ (.int .i64 5)).setCell ⟨w.heap.size + 1, 1, none⟩ (.string s)).setCell ⟨w.heap.size + 1, 2, none⟩ (.int .i64 0)).setCell ⟨w.heap.size + 1, 3, none⟩ (.int .u64 0)).setCell ⟨w.heap.size + 1, 4, none⟩ (.int .u64 0)).setCell ⟨w.heap.size + 1, 5, none⟩ (.slice A9 l.length cap9)) (w.heap.size + 1) [.int .i64 5, .string s, .int .i64 0, .int .u64 0, .int .u64 0, .slice A9 l.length cap9] 25 := (((((kZ9.set 0 _).set 1 _).set 2 _).set 3 _).set 4 _).set 5 _
        have b0 := kZ9.cell 0 rfl
        have b1 := kZ9.cell 1 rfl
        have b2 := kZ9.cell 2 rfl
        have b3 := kZ9.cell 3 rfl
        have b4 := kZ9.cell 4 rfl
        have b5 := kZ9.cell 5 rfl
        have bf0 := kZ9.free 0
        have bf1 := kZ9.free 1
        have bf2 := kZ9.free 2
        have bf3 := kZ9.free 3
        have bf4 := kZ9.free 4
        have bf5 := kZ9.free 5
        have HF := Lib.hid (And.intro hfin2 (And.intro hX10 kZ10))
        clear hc9 hnl hfin hfin2 hX9 hX10 y0 kZ9 kZ10 ho9 hL9 hx9 hmap hmap2 hT1 hr1 x kB1
        go_wp2_with fail
        (try simp only [Exit.inBlock, Exit.then])
        refine bodyPost_ret (v := .agg #[.int .i64 5, .string s, .int .i64 0, .int .u64 0, .int .u64 0, .slice A9 l.length cap9]) ?_ rfl ?_
        · rw [results_cell1 rfl]
          have z0 := HF.out.2.2.cell 0 rfl
          have z1 := HF.out.2.2.cell 1 rfl
          have z2 := HF.out.2.2.cell 2 rfl
          have z3 := HF.out.2.2.cell 3 rfl
          have z4 := HF.out.2.2.cell 4 rfl
          have z5 := HF.out.2.2.cell 5 rfl
          go_simp
          try rfl
        · exact ⟨own9, HF.out.2.1, A9, l.length, cap9, rfl, HF.out.1⟩

end Go.Proofs.Ytlmcfclonncgbaa
