/- A term's arguments on a stack (package term). -/
import Derived.Test.YtlmcfclonncgbaaBackward
import Derived.Test.YtlmcfclonncgbaaOne
import Derived.Test.YtlmcfclonncgbaaMay2
import Derived.Test.YtlmcfclonncgbaaGoS
namespace Go.Proofs.Ytlmcfclonncgbaa
open Go.RowKit
set_option linter.unusedVariables false

open Go.Shelf
attribute [local go_sem] Oper.semAt_some
theorem info_at : (Try.prog.info? 213).map (fun i => (i.zero, i.size, i.bytes)) = some (some (.agg #[.int .i64 0, .string ByteArray.empty, .int .i64 0, .int .u64 0, .int .u64 0, .slice none 0 0, .int .i64 0]), 7, 80) := by kernel_rfl
/-- A term on a stack, and its depth. -/
structure AtX where
  t : Tm
  A : Option Addr
  l : Nat
  c : Nat
  d : Nat
def AtX.cells (x : AtX) : List Value := [.int .i64 x.t.kind, .string x.t.name, .int .i64 x.t.int, .int .u64 x.t.re, .int .u64 x.t.im, .slice x.A x.l x.c, .int .i64 (x.d : Int)]
def atCells (L : List AtX) : List Value := L.flatMap AtX.cells
theorem atCells_append (a b : List AtX) : atCells (a ++ b) = atCells a ++ atCells b := by simp [atCells]
theorem atCells_length (L : List AtX) : (atCells L).length = L.length * 7 := by
  induction L with
  | nil => rfl
  | cons x L ih => simp only [atCells, List.flatMap_cons, List.length_append] at *; rw [ih]; simp [AtX.cells]; omega
def atOf (d : Nat) (x : BX) : AtX := ⟨x.t, x.A, x.l, x.c, d⟩

/-- An owner that has nothing may go. -/
theorem Ext.dropF {o o' : Nat → Nat} {a G : Nat} {w w' : World} (x : Ext o o' [a, G] w w') (h : ∀ b, b < w.heap.size → o b ≠ G) : Ext o o' [a] w w' :=
  ⟨x.os, x.tape, x.output, x.size, x.own, fun b hb hn => x.block b hb (by have := h b hb; simp at hn ⊢; exact ⟨hn, this⟩)⟩

set_option maxRecDepth 100000 in
set_option maxHeartbeats 4000000 in
theorem push_comp (s : ByteArray) (n re im : Int) (args : List Tm) (A : Option Addr) (len cap d : Nat) (own : Nat → Nat) (id : Nat) (w : World) (v : Value) (N : Nat) (L : List AtX) (hR : Row own id w 213 7 v N (atCells L)) (hLN : L.length = N) (hid : id ≠ 0)
    (hL : TmL own w args A len cap) (h1 : 1 ≤ len) (h20 : len ≤ 20) (hd : d ≤ 1000) (hN : N ≤ 1000000) (es : List (Tm × Option Addr × Nat × Nat)) (hes : es.length = len) (hle : es.length ≤ 1000000) (b o : Nat) (hA : A = some ⟨b, o, none⟩) (hbl : b < w.heap.size) (hob : own b = 0) (hel : Els w b o es) :
    Calls Try.prog 157 #[v, .agg #[.int .i64 5, .string s, .int .i64 n, .int .u64 re, .int .u64 im, .slice A len cap, .int .i64 (d : Int)]] w
      (Does own [id] w fun own' e w' => ∃ v', e = .returned v' ∧ Row own' id w' 213 7 v' (N + len) (atCells (L ++ (bwUp es hle len).map (atOf (d + 1))))) := by
  subst hA
  obtain ⟨A0, cap0, rfl, hc0⟩ := hR.form
  refine (callsIn_wide (n := 9)).1 (callsIn_of_wp_marks Try.func157 rfl trivial (wpIn_wide.2 ?_) rfl)
  simp only [Try.ntmps157, List.size_toArray, List.length_cons, List.length_nil, Nat.reduceAdd, Nat.reduceSub, Array.replicate_succ, Array.replicate_zero, List.push_toArray, List.append_toArray, List.nil_append, List.cons_append]
  go_wp2_with (go_at_call 160; refine (bw_any _ _ _ _).mono ?_; rintro e w' ⟨rfl, rfl⟩)
  obtain ⟨F0, hF0, hF⟩ := own_ne own w.heap.size
  obtain ⟨x1, k1, y1⟩ := (Ext.refl own [id] w).box [.slice A0 N cap0] 214 (F0 + id + 1)
  have r1 := hR.keep y1 (by simp)
  obtain ⟨x2, k2, y2⟩ := x1.box [.int .i64 5, .string s, .int .i64 n, .int .u64 re, .int .u64 im, .slice (some ⟨b, o, none⟩) len cap, .int .i64 (d : Int)] 213 (F0 + id + 2)
  have r2 := r1.keep y2 (by simp)
  replace k1 := k1.keep y2 (by simp)
  obtain ⟨x3, k3, y3⟩ := x2.box [.slice (some ⟨b, o, none⟩) len cap] 23 (F0 + id + 2)
  have r3 := r2.keep y3 (by simp)
  replace k1 := k1.keep y3 (by simp)
  replace k2 := k2.keep y3 (by simp)
  simp only [World.size_alloc] at x1 x2 x3 k1 k2 k3 r1 r2 r3
  have hob3 := (x3.own b hbl).trans hob
  obtain ⟨W0, hW0⟩ : ∃ W0, ((w.alloc (.cells #[.slice A0 N cap0] 214)).alloc (.cells #[.int .i64 5, .string s, .int .i64 n, .int .u64 re, .int .u64 im, .slice (some ⟨b, o, none⟩) len cap, .int .i64 (d : Int)] 213)).alloc (.cells #[.slice (some ⟨b, o, none⟩) len cap] 23) = W0 := ⟨_, rfl⟩
  have hel3 : Els W0 b o es := by
    rw [← hW0]
    intro j e he
    obtain ⟨c0, c1, c2, c3, c4, c5⟩ := hel j e he
    have z : ∀ q, ((((w.alloc (.cells #[.slice A0 N cap0] 214)).alloc (.cells #[.int .i64 5, .string s, .int .i64 n, .int .u64 re, .int .u64 im, .slice (some ⟨b, o, none⟩) len cap, .int .i64 (d : Int)] 213)).alloc (.cells #[.slice (some ⟨b, o, none⟩) len cap] 23))).cell? ⟨b, q, none⟩ = w.cell? ⟨b, q, none⟩ := fun q => x3.cell (p := ⟨b, q, none⟩) hbl (by show own b ∉ [id]; rw [hob]; simpa using hid.symm)
    exact ⟨(z _).trans c0, (z _).trans c1, (z _).trans c2, (z _).trans c3, (z _).trans c4, (z _).trans c5⟩
  have hsz : W0.heap.size = w.heap.size + 3 := by rw [← hW0]; simp
  generalize _root_.Go.Proofs.Ytlmcfclonncgbaa.give (_root_.Go.Proofs.Ytlmcfclonncgbaa.give (_root_.Go.Proofs.Ytlmcfclonncgbaa.give own w.heap.size (F0 + id + 1)) (w.heap.size + 1) (F0 + id + 2)) (w.heap.size + 1 + 1) (F0 + id + 2) = o3 at *
  have hcn := k3.cell 0 rfl
  rw [hW0] at x3 k1 k2 k3 r3 hcn ⊢
  clear hW0 x1 x2 y1 y2 y3 r1 r2
  have hG : F0 + id + 1 ∉ [id, F0 + id + 1] ↔ False := by simp
  have hH : F0 + id + 2 ∉ [id, F0 + id + 1] := by simp; omega
  refine wpIn_wide.1 (wpIn_rangeFunc_ownH (F := Fence.wide) (n := 9) rfl (by omega) (gf := 165) (lb := #[.pointer (some ⟨w.heap.size + 1 + 1, 0, none⟩)]) rfl trivial (enters_of Try.func165 (by kernel_rfl) rfl)
    (bw_stops Fence.wide 8 trivial rfl (by omega) (w.heap.size + 1 + 1) b o len cap es hes hle (fun k => k = w.heap.size + 1 + 1 ∨ k = b) (Or.inl rfl) (Or.inr rfl) W0 (by omega) (by omega) hcn hel3)
    (fun h k => h.trans k) (KpS.book (by rintro k (rfl | rfl) <;> omega)) (Below.refl _ _) (fun _ => rfl)
    (fun pre W => ∃ own' v', Ext o3 own' [id, F0 + id + 1] W0 W ∧ Blk own' (F0 + id + 1) W w.heap.size [v'] 214 ∧ Row own' id W 213 7 v' (N + pre.length) (atCells (L ++ pre.map (atOf (d + 1)))))
    (fun _ _ _ => False) ?hI (fun _ _ _ _ _ hs _ _ => hs) ⟨o3, _, Ext.refl _ _ _, k1, by simpa using r3⟩
    (fun x a' W => ∃ Bx, W0.heap.size ≤ Bx ∧ W.heap[Bx]? = some (.cells #[.int .i64 x.t.kind, .string x.t.name, .int .i64 x.t.int, .int .u64 x.t.re, .int .u64 x.t.im, .slice x.A x.l x.c] 25 (0, 0)) ∧ a' = { tmps := #[.slice A0 N cap0, .agg #[.int .i64 5, .string s, .int .i64 n, .int .u64 re, .int .u64 im, .slice (some ⟨b, o, none⟩) len cap, .int .i64 (d : Int)], .pointer (some ⟨w.heap.size, 0, none⟩), .pointer (some ⟨w.heap.size + 1, 0, none⟩), .slice none 0 0, undef, .pointer (some ⟨Bx, 0, none⟩), .pointer (some ⟨w.heap.size + 1, 0, none⟩), .pointer (some ⟨w.heap.size + 1, 0, none⟩), .int .i64 5, .bool true, .pointer (some ⟨w.heap.size + 1, 0, none⟩), .pointer (some ⟨w.heap.size + 1, 5, none⟩), .slice (some ⟨b, o, none⟩) len cap, .func (.func 165) #[] #[.pointer (some ⟨w.heap.size + 1 + 1, 0, none⟩)], .int .i64 (x.k : Int), .agg #[.int .i64 x.t.kind, .string x.t.name, .int .i64 x.t.int, .int .u64 x.t.re, .int .u64 x.t.im, .slice x.A x.l x.c], undef, undef, undef, undef, undef, undef, undef, undef, undef], defers := [] })
    ?hAx ?assign ?body ?done ?stop)
  case hI =>
    rintro pre W W' row ⟨own', v', x, kb, kr⟩ hg hr
    exact ⟨own', v', x.grown hg (fun k hk hlt => by have := (hr k hk).1; omega), kb.grownNC hg hr, kr.grownNC hg hr⟩
  case hAx =>
    rintro x a' u W W' row ⟨Bx, h1, h2, h3⟩ hg hr
    refine ⟨Bx, h1, (hg.block Bx (Array.getElem?_eq_some_iff.1 h2).1 (fun e => ?_)).trans h2, h3⟩
    obtain ⟨_, ob, ho, hc⟩ := hr Bx e.symm
    rw [h2] at ho
    cases ho
    cases hc
  case assign =>
    rintro l pre x W K ⟨own', v', xe, kb, kr⟩ hK
    unfold encs
    gi_wp2
    have hlt := xe.size
    exact hK _ _ ((KeepsOthers.alloc _ _).from _) (fun k hk => Below.heap_alloc _ _ _ (by rcases hk with rfl | rfl <;> omega)) ⟨own', v', xe.alloc _, kb.alloc _, kr.alloc _⟩ ⟨W.heap.size, hlt, heap_alloc_new _ _, rfl⟩
  case body =>
    rintro l pre x a' W hl hrec ⟨own', v', xe, kb, kr⟩ ⟨Bx, hBx, hxc, rfl⟩ hpre
    have k2' := k2.keep xe hH
    have c2 := kb.cell 0 rfl
    have f2 := kb.free 0
    have c3 := k2'.cell 6 rfl
    have hx : Blk own' (own' Bx) W Bx [.int .i64 x.t.kind, .string x.t.name, .int .i64 x.t.int, .int .u64 x.t.re, .int .u64 x.t.im, .slice x.A x.l x.c] 25 := ⟨hxc, rfl⟩
    have b0 := hx.cell 0 rfl
    have b1 := hx.cell 1 rfl
    have b2 := hx.cell 2 rfl
    have b3 := hx.cell 3 rfl
    have b4 := hx.cell 4 rfl
    have b5 := hx.cell 5 rfl
    obtain ⟨A1, cp1, rfl, hc1⟩ := kr.form
    gi_wp2_with (gi_at_builtin; refine wpListIn_append_row rfl _ _ 214 rfl 213 (.agg #[.int .i64 0, .string ByteArray.empty, .int .i64 0, .int .u64 0, .int .u64 0, .slice none 0 0, .int .i64 0]) 7 80 Try.underlying214 info_at rfl (by decide) (by decide) rfl rfl rfl (by intro u hu; simp at hu; rcases hu with rfl | rfl | rfl | rfl | rfl | rfl | rfl <;> rfl) kr (by omega) ?_)
    intro g cp2 w1 own1 kr1 xe1 ko1
    have kb1 := kb.keep xe1 (by simp; omega)
    have c2' := kb1.cell 0 rfl
    have f2' := kb1.free 0
    have k3' := (k3.keep xe hH)
    have hb' : own' b = 0 := (xe.own b (by omega)).trans hob3
    have hWs := xe.size
    clear c2 f2
    gi_wp2
    refine ⟨(ko1.trans (KeepsOthers.setCell _ _ _)).from _, fun k hk => ?_, own1, _, (xe.trans (xe1.mono (by simp))).setCell _ _ (fun _ => by show o3 w.heap.size ∈ _; rw [k1.2]; simp), kb1.set 0 _, ?_⟩
    · have hk2 : k ≠ w.heap.size := by rcases hk with rfl | rfl <;> omega
      refine (Below.heap_setCell _ _ _ _ hk2).trans (xe1.block k (by rcases hk with rfl | rfl <;> omega) ?_)
      rcases hk with rfl | rfl
      · rw [k3'.2]; simp; omega
      · rw [hb']; simpa using hid.symm
    · have hne := kr1.ne_id kb1 (by omega)
      have := kr1.far (p := ⟨w.heap.size, 0, none⟩) hne (.slice (some ⟨g, 0, none⟩) (N + pre.length + 1) cp2)
      rw [List.map_append, ← List.append_assoc, atCells_append, List.length_append, ← Nat.add_assoc]
      exact this
  case done =>
    rintro D ys W hD rfl ⟨own', v', xe, kb, kr⟩ hK
    have c2 := kb.cell 0 rfl
    have hWs := xe.size
    obtain ⟨A1, cp1, rfl, hc1⟩ := kr.form
    go_wp2
    refine ⟨by simp, .inl ⟨_, _, rfl, run_takeDeferred hK, ?_⟩⟩
    refine ⟨_, results_tmp rfl _ _ _, ?_⟩
    have hgr := grownBy_putObj' W D (.deferred none)
    have hput := kr.grownNC (B := W0.heap.size) hgr (fun r e => by cases e; exact ⟨hD, _, hK, rfl⟩)
    rw [bwUp_length len (by omega)] at hput
    refine ⟨own', ?_, _, rfl, ?_⟩
    · have x4 := (x3.mono (jds := [id, F0 + id + 1]) (by simp)).trans xe
      exact (x4.dropF (fun b hb => by have := hF b hb; omega)).grown hgr (fun k hk hlt => by cases hk; omega)
    · rw [bwUp_length len (by omega)]
      exact hput
  case stop =>
    rintro D c pre W _ _ h _
    exact h.elim

theorem bwUp_terms {es : List (Tm × Option Addr × Nat × Nat)} {h : es.length ≤ 1000000} : ∀ k, k ≤ es.length → (bwUp es h k).map (·.t) = ((es.drop (es.length - k)).map (·.1)).reverse ∧ ∀ x ∈ bwUp es h k, (x.t, x.A, x.l, x.c) ∈ es
  | 0, _ => by simp [bwUp]
  | k + 1, hk => by
    obtain ⟨e, he⟩ : ∃ e, es[es.length - 1 - k]? = some e := ⟨_, List.getElem?_eq_getElem (by omega)⟩
    have hb : es.length - 1 - k < 1000000 := by omega
    obtain ⟨i1, i2⟩ := bwUp_terms (es := es) (h := h) k (by omega)
    rw [bwUp_succ he hb]
    obtain ⟨hlt, hget⟩ := List.getElem?_eq_some_iff.1 he
    constructor
    · rw [List.map_append, i1, show es.length - (k + 1) = es.length - 1 - k by omega, List.drop_eq_getElem_cons hlt, hget, show es.length - 1 - k + 1 = es.length - k by omega]
      simp
    · intro x hx
      rcases List.mem_append.1 hx with hx | hx
      · exact i2 x hx
      · simp at hx
        subst hx
        exact List.mem_of_getElem? he

set_option maxRecDepth 100000 in
set_option maxHeartbeats 2000000 in
/-- The arguments of a node that may be are put on the stack, so that the first comes first. -/
theorem tpush_any (x : AtX) (own : Nat → Nat) (id : Nat) (w : World) (v : Value) (N : Nat) (L : List AtX) (hR : Row own id w 213 7 v N (atCells L)) (hLN : L.length = N) (hid : id ≠ 0)
    (hT : TmS own w x.t (.slice x.A x.l x.c)) (h1 : oneE x.t = 0) (hd : x.d ≤ 1000) (hN : N ≤ 1000000) :
    Calls Try.prog 157 #[v, .agg #[.int .i64 x.t.kind, .string x.t.name, .int .i64 x.t.int, .int .u64 x.t.re, .int .u64 x.t.im, .slice x.A x.l x.c, .int .i64 (x.d : Int)]] w
      (Does own [id] w fun own' e w' => ∃ v' K, e = .returned v' ∧ Row own' id w' 213 7 v' (N + K.length) (atCells (L ++ K)) ∧ (K.map (fun y : AtX => (y.t, y.d))).reverse = kidsOf x.t x.d ∧ (∀ y ∈ K, TmS own' w' y.t (.slice y.A y.l y.c)) ∧ K.length ≤ 20) := by
  obtain ⟨t, A, len, cap, d⟩ := x
  obtain ⟨k, s, n, re, im, args⟩ := t
  obtain ⟨A', len', cap', he, hL⟩ := hT.args
  simp only [Value.slice.injEq] at he
  obtain ⟨rfl, rfl, rfl⟩ := he
  replace hL : TmL own w args A len cap := hL
  obtain ⟨o1, o2, o3, o4, o5⟩ := oneE_zero.1 h1
  by_cases h5 : k = 5
  · subst h5
    obtain ⟨p1, p2, p3⟩ := o5 rfl
    have hlen := hL.1
    obtain ⟨es, e1, e2, e3, b, o, rfl, hb, ho, hel⟩ := hL.els (by omega)
    have hle : es.length ≤ 1000000 := by omega
    refine (push_comp s n re im args _ len cap d own id w v N L hR hLN hid hL (by omega) (by omega) hd hN es e1 hle b o rfl hb ho hel).mono ?_
    rintro e w' ⟨own', x', v', rfl, hr⟩
    obtain ⟨q1, q2⟩ := bwUp_terms (es := es) (h := hle) len (by omega)
    refine ⟨own', x', v', _, rfl, by rw [List.length_map, bwUp_length (es := es) (h := hle) len (by omega)]; exact hr, ?_, ?_, ?_⟩
    · have hk : kidsOf (Tm.mk 5 s n re im args) d = args.map (fun a => (a, d + 1)) := by unfold kidsOf; rw [if_pos (show (Tm.mk 5 s n re im args).kind = 5 from rfl)]; rfl
      show _ = kidsOf (Tm.mk 5 s n re im args) d
      rw [hk]
      have z := congrArg (List.map (fun a => (a, d + 1))) q1
      rw [show es.length - len = 0 by omega, List.drop_zero, e2] at z
      simp only [List.map_map, List.map_reverse] at z ⊢
      have z2 : List.map ((fun y : AtX => (y.t, y.d)) ∘ atOf (d + 1)) (bwUp es hle len) = List.map ((fun a => (a, d + 1)) ∘ fun x : BX => x.t) (bwUp es hle len) := rfl
      rw [z2, z, List.reverse_reverse]
    · intro y hy
      obtain ⟨z, hz, rfl⟩ := List.mem_map.1 hy
      exact TmS.keep x' (by simpa using hid.symm) z.t _ (e3 _ (q2 z hz))
    · rw [List.length_map, bwUp_length (es := es) (h := hle) len (by omega)]; omega
  · have h5' : (k == 5) = false := by simpa using h5
    have hk : kidsOf (.mk k s n re im args) d = [] := by unfold kidsOf; rw [if_neg (by exact h5)]
    obtain ⟨A0, cap0, rfl, hc0⟩ := hR.form
    have HR := Lib.hid hR
    have HK := Lib.hid hk
    clear hT hL h1 o3 o4 o5 hR hk
    dsimp only [Tm.kind, Tm.name, Tm.int, Tm.re, Tm.im]
    go_enter Try.func157, Try.ntmps157
    go_wp2_with fail
    go_ret
    exact ⟨own, ((Ext.refl own [id] w).alloc _).alloc _, _, rfl, [], by simpa using (HR.out.alloc _).alloc _, by simpa using HK.out.symm, by simp, by simp⟩

end Go.Proofs.Ytlmcfclonncgbaa
