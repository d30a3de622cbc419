/- The walk of the law StoreNil: of no heap, no atoms. -/
import Derived.Test.YtlmcfclonncgbaaAwake7
import Derived.Laws.ResultCell
namespace Go.Proofs.Ytlmcfclonncgbaa
open Go.RowKit
set_option linter.unusedVariables false
set_option linter.unusedSimpArgs false

theorem put_nilheap (own : Nat → Nat) (q : Value) (v : Value) (w : World) (k n re im : Int) (s : ByteArray) (sl : Value) : Calls Try.prog 28 #[.pointer none, q, .agg #[.int .i64 k, .string s, .int .i64 n, .int .u64 re, .int .u64 im, sl], v] w (Does own [] w fun own' e w' => e = .returned (.tuple #[.int .u64 0, .int .i64 1])) := by
  go_enter Try.func28, Try.ntmps28
  go_wp2_with fail
  refine wp_scope_nat 0 (fun _ _ _ => False) rfl (fun _ _ _ h => h.elim) (fun _ => ?_)
  go_wp2_with fail
  (try simp only [Exit.jump])
  go_ret2
  exact ⟨own, (Ext.refl own [] w).alloc _, rfl⟩
theorem put_nilatoms (own : Nat → Nat) (p : Nat) (v : Value) (w : World) (k n re im : Int) (s : ByteArray) (sl : Value) : Calls Try.prog 28 #[.pointer (some ⟨p, 0, none⟩), .pointer none, .agg #[.int .i64 k, .string s, .int .i64 n, .int .u64 re, .int .u64 im, sl], v] w (Does own [] w fun own' e w' => e = .returned (.tuple #[.int .u64 0, .int .i64 1])) := by
  go_enter Try.func28, Try.ntmps28
  go_wp2_with fail
  refine wp_scope_nat 0 (fun _ _ _ => False) rfl (fun _ _ _ h => h.elim) (fun _ => ?_)
  go_wp2_with fail
  (try simp only [Exit.jump])
  go_ret2
  exact ⟨own, (Ext.refl own [] w).alloc _, rfl⟩
theorem get_nilheap (own : Nat → Nat) (q : Value) (v : Value) (c : Int) (w : World) : Calls Try.prog 42 #[.pointer none, q, .int .u64 c, v] w (Does own [] w fun own' e w' => e = .returned (.tuple #[.agg #[.int .i64 0, .string ByteArray.empty, .int .i64 0, .int .u64 0, .int .u64 0, .slice none 0 0], .int .i64 1])) := by
  go_enter Try.func42, Try.ntmps42
  go_wp2_with fail
  (try simp only [Exit.inBlock, Exit.then])
  refine bodyPost_ret (v := .tuple #[.agg #[.int .i64 0, .string ByteArray.empty, .int .i64 0, .int .u64 0, .int .u64 0, .slice none 0 0], .int .i64 1]) ?_ rfl ?_
  · rw [results_cell_tmp rfl]
    go_simp
    try rfl
  · exact ⟨own, (Ext.refl own [] w).alloc _, rfl⟩
theorem get_nilatoms (own : Nat → Nat) (p : Nat) (v : Value) (c : Int) (w : World) : Calls Try.prog 42 #[.pointer (some ⟨p, 0, none⟩), .pointer none, .int .u64 c, v] w (Does own [] w fun own' e w' => e = .returned (.tuple #[.agg #[.int .i64 0, .string ByteArray.empty, .int .i64 0, .int .u64 0, .int .u64 0, .slice none 0 0], .int .i64 1])) := by
  go_enter Try.func42, Try.ntmps42
  go_wp2_with fail
  (try simp only [Exit.inBlock, Exit.then])
  refine bodyPost_ret (v := .tuple #[.agg #[.int .i64 0, .string ByteArray.empty, .int .i64 0, .int .u64 0, .int .u64 0, .slice none 0 0], .int .i64 1]) ?_ rfl ?_
  · rw [results_cell_tmp rfl]
    go_simp
    try rfl
  · exact ⟨own, (Ext.refl own [] w).alloc _, rfl⟩
theorem sound_nil (own : Nat → Nat) (c : Int) (w : World) : Calls Try.prog 50 #[.pointer none, .pointer none, .int .u64 c] w (Does own [] w fun own' e w' => e = .returned (.int .i64 1)) := by
  go_enter Try.func50, Try.ntmps50
  go_wp2_with (go_at_call 42; refine (get_nilheap own _ _ c _).mono ?_; rintro e w2 ⟨own2, x2, rfl⟩)
  go_ret
  exact ⟨own2, x2.alloc _, rfl⟩
theorem sput_nil (own : Nat → Nat) (p q v : Value) (hp : p = .pointer none ∨ ((∃ b, p = .pointer (some ⟨b, 0, none⟩)) ∧ q = .pointer none)) (w : World) (k n re im : Int) (s : ByteArray) (sl : Value) : Calls Try.prog 28 #[p, q, .agg #[.int .i64 k, .string s, .int .i64 n, .int .u64 re, .int .u64 im, sl], v] w (Does own [] w fun own' e w' => e = .returned (.tuple #[.int .u64 0, .int .i64 1])) := by
  rcases hp with rfl | ⟨⟨b, rfl⟩, rfl⟩
  · exact put_nilheap own q v w k n re im s sl
  · exact put_nilatoms own b v w k n re im s sl
theorem sget_nil (own : Nat → Nat) (p q v : Value) (hp : p = .pointer none ∨ ((∃ b, p = .pointer (some ⟨b, 0, none⟩)) ∧ q = .pointer none)) (c : Int) (w : World) : Calls Try.prog 42 #[p, q, .int .u64 c, v] w (Does own [] w fun own' e w' => e = .returned (.tuple #[.agg #[.int .i64 0, .string ByteArray.empty, .int .i64 0, .int .u64 0, .int .u64 0, .slice none 0 0], .int .i64 1])) := by
  rcases hp with rfl | ⟨⟨b, rfl⟩, rfl⟩
  · exact get_nilheap own q v c w
  · exact get_nilatoms own b v c w
set_option maxRecDepth 100000 in
set_option maxHeartbeats 4000000 in
theorem storeNil_walk (v0 : Value) (t : Tm) {w : World} (ht : ∃ sl, v0 = valT t sl ∧ TmS own0 w t sl) (c : Int) (wc : (Lit.int .u64 c).wf = true) (_w : World) :
    Calls Try.prog 8 #[v0, .int .u64 c] w fun e w' => e = .returned (.bool true) ∧ Below w.heap.size w w' := by
  obtain ⟨sl, rfl, hT⟩ := ht
  obtain ⟨A, len, cap, rfl, hL⟩ := hT.args
  have e : valT t (.slice A len cap) = .agg #[.int .i64 t.kind, .string t.name, .int .i64 t.int, .int .u64 t.re, .int .u64 t.im, .slice A len cap] := rfl
  rw [e]
  obtain ⟨x1, kb, _⟩ := (Ext.refl (fun _ => 0) [] w).box [.int .i64 t.kind, .string t.name, .int .i64 t.int, .int .u64 t.re, .int .u64 t.im, .slice A len cap] 25 0
  generalize _root_.Go.Proofs.Ytlmcfclonncgbaa.give (fun _ => 0) w.heap.size 0 = o1 at *
  clear hT hL wc
  go_enter Try.func8, Try.ntmps8
  go_wp2_with (first
    | (go_at_call 26; refine (new_any o1 1 5 _).mono ?_; rintro e w1 ⟨own1, x1', rfl, hlt1, h1⟩; have X1 := x1.trans x1'; have k1 := kb.keep x1' (by decide))
    | (go_at_call 27; refine (anew_any own1 2 3 _ (by decide)).mono ?_; rintro e w2 ⟨own2, pt, x2, rfl, hle2, hlt2, t2⟩; have X2 := X1.trans x2; have k2 := k1.keep x2 (by decide); have c0 := k2.cell 0 rfl; have c1 := k2.cell 1 rfl; have c2 := k2.cell 2 rfl; have c3 := k2.cell 3 rfl; have c4 := k2.cell 4 rfl; have c5 := k2.cell 5 rfl)
    | (go_at_call 28; refine (sput_nil own3 _ _ _ (by first | exact Or.inl rfl | exact Or.inr ⟨⟨_, rfl⟩, rfl⟩) _ _ _ _ _ _ _).mono ?_; rintro e w4 ⟨own4, x4, rfl⟩; have X4 := X3.trans x4)
    | (go_at_call 28; refine (sput_nil own2 _ _ _ (by first | exact Or.inl rfl | exact Or.inr ⟨⟨_, rfl⟩, rfl⟩) _ _ _ _ _ _ _).mono ?_; rintro e w3 ⟨own3, x3, rfl⟩; have X3 := X2.trans x3; have k3 := k2.keep x3 (by decide); have d0 := k3.cell 0 rfl; have d1 := k3.cell 1 rfl; have d2 := k3.cell 2 rfl; have d3 := k3.cell 3 rfl; have d4 := k3.cell 4 rfl; have d5 := k3.cell 5 rfl)
    | (go_at_call 42; refine (sget_nil own5 _ _ _ (by first | exact Or.inl rfl | exact Or.inr ⟨⟨_, rfl⟩, rfl⟩) _ _).mono ?_; rintro e w6 ⟨own6, x6, (rfl : e = .returned (.tuple #[.agg #[.int .i64 0, .string ByteArray.empty, .int .i64 0, .int .u64 0, .int .u64 0, .slice none 0 0], .int .i64 1]))⟩; have X6 := X5.trans (((Ext.refl own5 [] w5).alloc _).trans x6))
    | (go_at_call 42; refine (sget_nil own4 _ _ _ (by first | exact Or.inl rfl | exact Or.inr ⟨⟨_, rfl⟩, rfl⟩) _ _).mono ?_; rintro e w5 ⟨own5, x5, (rfl : e = .returned (.tuple #[.agg #[.int .i64 0, .string ByteArray.empty, .int .i64 0, .int .u64 0, .int .u64 0, .slice none 0 0], .int .i64 1]))⟩; have X5 := X4.trans x5)
    | (go_at_call 50; refine (sound_nil own6 _ _).mono ?_; rintro e w7 ⟨own7, x7, rfl⟩; have X7 := X6.trans (((Ext.refl own6 [] w6).alloc _).trans x7))
    | (go_at_call 25; refine (awake7_any _).mono ?_; rintro e w8 ⟨rfl, hb⟩))
  go_ret
  refine ⟨rfl, ?_⟩
  exact X7.belowStep hb |>.below (fun _ _ => rfl) (by decide)

end Go.Proofs.Ytlmcfclonncgbaa
