/- Texts that stand together: One, May2, Push, Built, RVars, SmallWalk. -/
import Derived.Test.YtlmcfclonncgbaaMay
import Derived.Test.YtlmcfclonncgbaaPk1
import Derived.Test.YtlmcfclonncgbaaPk3
import Derived.Test.YtlmcfclonncgbaaPk2
/- What is wrong with a node (package term), by a contract. -/
namespace Go.Proofs.Ytlmcfclonncgbaa
open Go.RowKit
set_option linter.unusedVariables false

set_option maxHeartbeats 1600000 in
set_option maxRecDepth 100000 in
theorem one_any (t : Tm) (sl : Value) (own : Nat → Nat) (w : World) (h : TmS own w t sl) :
    Calls Try.prog 156 #[valT t sl] w (Does own [] w fun own' e w' => e = .returned (.int .i64 (oneE t))) := by
  obtain ⟨k, s, n, re, im, args⟩ := t
  obtain ⟨A, len, cap, rfl, hL⟩ := h.args
  obtain ⟨_, _, _, _, hsz⟩ := h.rng
  replace hL : TmL own w args A len cap := hL
  have hlen := hL.1
  have hle := hL.2.1
  have hmax := hL.2.2.1
  unfold maxLen at hmax
  replace hsz : s.size ≤ 2 ^ 63 - 1 := hsz
  rw [valT_mk]
  have hn0 : (0 : Int) ≤ (s.size : Int) := by omega
  clear hL h
  by_cases k1 : k = 1
  · subst k1
    by_cases h2 : n < 0
    · skip
      have hE : oneE (.mk 1 s n re im args) = 1 := by rw [oneE_mk]; split <;> (try split) <;> first | rfl | omega
      rw [hE]
      go_enter Try.func156, Try.ntmps156
      go_wp2_with fail
      go_ret
      exact ⟨own, (Ext.refl own [] w).alloc _, rfl⟩
    · have h2' : 0 ≤ n := by omega
      have hE : oneE (.mk 1 s n re im args) = 0 := by rw [oneE_mk]; split <;> (try split) <;> first | rfl | omega
      rw [hE]
      go_enter Try.func156, Try.ntmps156
      go_wp2_with fail
      go_ret
      exact ⟨own, (Ext.refl own [] w).alloc _, rfl⟩
  · have k1' : (k == 1) = false := by simpa using k1
    by_cases k2 : k = 2
    · subst k2
      by_cases h3 : 200 < s.size
      · have h3' : (200 : Int) < (s.size : Int) := by omega
        have hE : oneE (.mk 2 s n re im args) = 3 := by rw [oneE_mk]; split <;> (try split) <;> first | rfl | omega
        rw [hE]
        go_enter Try.func156, Try.ntmps156
        go_wp2_with fail
        go_ret
        exact ⟨own, (Ext.refl own [] w).alloc _, rfl⟩
      · have h3' : (s.size : Int) ≤ 200 := by omega
        have hE : oneE (.mk 2 s n re im args) = 0 := by rw [oneE_mk]; split <;> (try split) <;> first | rfl | omega
        rw [hE]
        go_enter Try.func156, Try.ntmps156
        go_wp2_with fail
        go_ret
        exact ⟨own, (Ext.refl own [] w).alloc _, rfl⟩
    · have k2' : (k == 2) = false := by simpa using k2
      by_cases k5 : k = 5
      · subst k5
        by_cases h2 : len = 0
        · have h2' : args.length = 0 := by omega
          have hE : oneE (.mk 5 s n re im args) = 1 := by rw [oneE_mk]; split <;> (try split) <;> first | rfl | omega
          rw [hE]
          subst h2
          go_enter Try.func156, Try.ntmps156
          go_wp2_with fail
          go_ret
          exact ⟨own, (Ext.refl own [] w).alloc _, rfl⟩
        · have h2a : ((len : Int) == 0) = false := by simp; omega
          by_cases h3 : 200 < s.size
          · have h3' : (200 : Int) < (s.size : Int) := by omega
            have hE : oneE (.mk 5 s n re im args) = 3 := by rw [oneE_mk]; split <;> (try split) <;> first | rfl | omega
            rw [hE]
            go_enter Try.func156, Try.ntmps156
            go_wp2_with fail
            go_ret
            exact ⟨own, (Ext.refl own [] w).alloc _, rfl⟩
          · have h3' : (s.size : Int) ≤ 200 := by omega
            by_cases h4 : 20 < args.length
            · have h4' : (20 : Int) < (len : Int) := by omega
              have hE : oneE (.mk 5 s n re im args) = 3 := by rw [oneE_mk]; split <;> (try split) <;> first | rfl | omega
              rw [hE]
              go_enter Try.func156, Try.ntmps156
              go_wp2_with fail
              go_ret
              exact ⟨own, (Ext.refl own [] w).alloc _, rfl⟩
            · have h4' : (len : Int) ≤ 20 := by omega
              have hE : oneE (.mk 5 s n re im args) = 0 := by rw [oneE_mk]; split <;> (try split) <;> first | rfl | omega
              rw [hE]
              go_enter Try.func156, Try.ntmps156
              go_wp2_with fail
              go_ret
              exact ⟨own, (Ext.refl own [] w).alloc _, rfl⟩
      · have k5' : (k == 5) = false := by simpa using k5
        by_cases k3 : k = 3
        · subst k3
          have hE : oneE (.mk 3 s n re im args) = 0 := by rw [oneE_mk]; split <;> (try split) <;> first | rfl | omega
          rw [hE]
          go_enter Try.func156, Try.ntmps156
          go_wp2_with fail
          go_ret
          exact ⟨own, (Ext.refl own [] w).alloc _, rfl⟩
        · have k3' : (k == 3) = false := by simpa using k3
          by_cases k4 : k = 4
          · subst k4
            have hE : oneE (.mk 4 s n re im args) = 0 := by rw [oneE_mk]; split <;> (try split) <;> first | rfl | omega
            rw [hE]
            go_enter Try.func156, Try.ntmps156
            go_wp2_with fail
            go_ret
            exact ⟨own, (Ext.refl own [] w).alloc _, rfl⟩
          · have k4' : (k == 4) = false := by simpa using k4
            have hE : oneE (.mk k s n re im args) = 1 := by rw [oneE_mk]; split <;> (try split) <;> first | rfl | omega
            rw [hE]
            go_enter Try.func156, Try.ntmps156
            go_wp2_with fail
            go_ret
            exact ⟨own, (Ext.refl own [] w).alloc _, rfl⟩

end Go.Proofs.Ytlmcfclonncgbaa
/- May and Nodes of the reference: what is wrong with a term, how many nodes it has. -/
namespace Go.Proofs.Ytlmcfclonncgbaa
open Go.RowKit
set_option linter.unusedVariables false

theorem own_ne (own : Nat → Nat) (n : Nat) : ∃ F, F ≠ 0 ∧ ∀ b, b < n → own b < F := by
  obtain ⟨F, h⟩ := fresh_owner own n
  exact ⟨F + 1, by omega, fun b hb => by have := h b hb; omega⟩
/-- A call that has touched nothing but what is a fresh owner's. -/
theorem Ext.only {own own' : Nat → Nat} {F : Nat} {w w' : World} (x : Ext own own' [F] w w') (hF : ∀ b, b < w.heap.size → own b < F) : Ext own own' [] w w' :=
  ⟨x.os, x.tape, x.output, x.size, x.own, fun b hb _ => x.block b hb (by have := hF b hb; simp; omega)⟩
set_option maxHeartbeats 800000 in
theorem rmay_any (t : Tm) (sl : Value) (own : Nat → Nat) (w : World) (h : TmS own w t sl) :
    Calls Try.prog 24 #[valT t sl] w (Does own [] w fun own' e w' => e = .returned (.int .i64 (mayE t))) := by
  obtain ⟨F, hF0, hF⟩ := own_ne own w.heap.size
  obtain ⟨A, l, c, rfl, _⟩ := h.args
  have e : valT t (.slice A l c) = .agg #[.int .i64 t.kind, .string t.name, .int .i64 t.int, .int .u64 t.re, .int .u64 t.im, .slice A l c] := rfl
  rw [e]
  go_enter Try.func24, Try.ntmps24
  go_wp2_with fail
  have x1 := (Ext.refl own [F] w).alloc (.cells #[.int .i64 t.kind, .string t.name, .int .i64 t.int, .int .u64 t.re, .int .u64 t.im, .slice A l c] 25)
  obtain ⟨x3, hbw, _⟩ := x1.box [.int .i64 0, .int .i64 0] 117 F
  rw [World.size_alloc] at x3 hbw
  refine (may_any t _ 1 (0, 0) _ F _ _ (TmS.keep x3 (by simpa using hF0.symm) t _ h) hF0 hbw (by omega) ⟨by simp, by simp, by simp, by simp⟩).mono ?_
  rintro e w2 ⟨own2, x2, rfl, hb2⟩
  have c1 := hb2.cell 1 rfl
  go_wp2_with fail
  go_ret
  exact ⟨own2, (x3.trans x2).only hF, rfl⟩
set_option maxHeartbeats 800000 in
theorem rnodes_any (t : Tm) (sl : Value) (own : Nat → Nat) (w : World) (h : TmS own w t sl) :
    Calls Try.prog 53 #[valT t sl] w (Does own [] w fun own' e w' => e = .returned (.int .i64 (nodesN t))) := by
  obtain ⟨F, hF0, hF⟩ := own_ne own w.heap.size
  obtain ⟨A, l, c, rfl, _⟩ := h.args
  have e : valT t (.slice A l c) = .agg #[.int .i64 t.kind, .string t.name, .int .i64 t.int, .int .u64 t.re, .int .u64 t.im, .slice A l c] := rfl
  rw [e]
  unfold nodesN mayE
  go_enter Try.func53, Try.ntmps53
  go_wp2_with fail
  have x1 := (Ext.refl own [F] w).alloc (.cells #[.int .i64 t.kind, .string t.name, .int .i64 t.int, .int .u64 t.re, .int .u64 t.im, .slice A l c] 25)
  obtain ⟨x3, hbw, _⟩ := x1.box [.int .i64 0, .int .i64 0] 117 F
  rw [World.size_alloc] at x3 hbw
  refine (may_any t _ 1 (0, 0) _ F _ _ (TmS.keep x3 (by simpa using hF0.symm) t _ h) hF0 hbw (by omega) ⟨by simp, by simp, by simp, by simp⟩).mono ?_
  rintro e w2 ⟨own2, x2, rfl, hb2⟩
  have c0 := hb2.cell 0 rfl
  have c1 := hb2.cell 1 rfl
  by_cases he : (mayF t 1 (0, 0)).2 = 0
  · rw [he] at c1
    go_wp2_with fail
    go_ret
    exact ⟨own2, (x3.trans x2).only hF, rfl⟩
  · have he' : ((mayF t 1 (0, 0)).2 == 0) = false := by simpa using he
    go_wp2_with fail
    go_ret
    exact ⟨own2, (x3.trans x2).only hF, rfl⟩

end Go.Proofs.Ytlmcfclonncgbaa
/- A term's arguments on a stack (package term). -/
namespace Go.Proofs.Ytlmcfclonncgbaa
open Go.RowKit
set_option linter.unusedVariables false

open Go.Shelf
attribute [local go_sem] Oper.semAt_some
theorem info_at : (Try.prog.info? 213).map (fun i => (i.zero, i.size, i.bytes)) = some (some (.agg #[.int .i64 0, .string ByteArray.empty, .int .i64 0, .int .u64 0, .int .u64 0, .slice none 0 0, .int .i64 0]), 7, 80) := by kernel_rfl
/-- A term on a stack, and its depth. -/
structure AtX where
  t : Tm
  A : Option Addr
  l : Nat
  c : Nat
  d : Nat
def AtX.cells (x : AtX) : List Value := [.int .i64 x.t.kind, .string x.t.name, .int .i64 x.t.int, .int .u64 x.t.re, .int .u64 x.t.im, .slice x.A x.l x.c, .int .i64 (x.d : Int)]
def atCells (L : List AtX) : List Value := L.flatMap AtX.cells
theorem atCells_append (a b : List AtX) : atCells (a ++ b) = atCells a ++ atCells b := by simp [atCells]
theorem atCells_length (L : List AtX) : (atCells L).length = L.length * 7 := by
  induction L with
  | nil => rfl
  | cons x L ih => simp only [atCells, List.flatMap_cons, List.length_append] at *; rw [ih]; simp [AtX.cells]; omega
def atOf (d : Nat) (x : BX) : AtX := ⟨x.t, x.A, x.l, x.c, d⟩

/-- An owner that has nothing may go. -/
theorem Ext.dropF {o o' : Nat → Nat} {a G : Nat} {w w' : World} (x : Ext o o' [a, G] w w') (h : ∀ b, b < w.heap.size → o b ≠ G) : Ext o o' [a] w w' :=
  ⟨x.os, x.tape, x.output, x.size, x.own, fun b hb hn => x.block b hb (by have := h b hb; simp at hn ⊢; exact ⟨hn, this⟩)⟩

set_option maxRecDepth 100000 in
set_option maxHeartbeats 4000000 in
theorem push_comp (s : ByteArray) (n re im : Int) (args : List Tm) (A : Option Addr) (len cap d : Nat) (own : Nat → Nat) (id : Nat) (w : World) (v : Value) (N : Nat) (L : List AtX) (hR : Row own id w 213 7 v N (atCells L)) (hLN : L.length = N) (hid : id ≠ 0)
    (hL : TmL own w args A len cap) (h1 : 1 ≤ len) (h20 : len ≤ 20) (hd : d ≤ 1000) (hN : N ≤ 1000000) (es : List (Tm × Option Addr × Nat × Nat)) (hes : es.length = len) (hle : es.length ≤ 1000000) (b o : Nat) (hA : A = some ⟨b, o, none⟩) (hbl : b < w.heap.size) (hob : own b = 0) (hel : Els w b o es) :
    Calls Try.prog 157 #[v, .agg #[.int .i64 5, .string s, .int .i64 n, .int .u64 re, .int .u64 im, .slice A len cap, .int .i64 (d : Int)]] w
      (Does own [id] w fun own' e w' => ∃ v', e = .returned v' ∧ Row own' id w' 213 7 v' (N + len) (atCells (L ++ (bwUp es hle len).map (atOf (d + 1))))) := by
  subst hA
  obtain ⟨A0, cap0, rfl, hc0⟩ := hR.form
  refine (callsIn_wide (n := 9)).1 (callsIn_of_wp_marks Try.func157 rfl trivial (wpIn_wide.2 ?_) rfl)
  simp only [Try.ntmps157, List.size_toArray, List.length_cons, List.length_nil, Nat.reduceAdd, Nat.reduceSub, Array.replicate_succ, Array.replicate_zero, List.push_toArray, List.append_toArray, List.nil_append, List.cons_append]
  go_wp2_with (go_at_call 160; refine (bw_any _ _ _ _).mono ?_; rintro e w' ⟨rfl, rfl⟩)
  obtain ⟨F0, hF0, hF⟩ := own_ne own w.heap.size
  obtain ⟨x1, k1, y1⟩ := (Ext.refl own [id] w).box [.slice A0 N cap0] 214 (F0 + id + 1)
  have r1 := hR.keep y1 (by simp)
  obtain ⟨x2, k2, y2⟩ := x1.box [.int .i64 5, .string s, .int .i64 n, .int .u64 re, .int .u64 im, .slice (some ⟨b, o, none⟩) len cap, .int .i64 (d : Int)] 213 (F0 + id + 2)
  have r2 := r1.keep y2 (by simp)
  replace k1 := k1.keep y2 (by simp)
  obtain ⟨x3, k3, y3⟩ := x2.box [.slice (some ⟨b, o, none⟩) len cap] 23 (F0 + id + 2)
  have r3 := r2.keep y3 (by simp)
  replace k1 := k1.keep y3 (by simp)
  replace k2 := k2.keep y3 (by simp)
  simp only [World.size_alloc] at x1 x2 x3 k1 k2 k3 r1 r2 r3
  have hob3 := (x3.own b hbl).trans hob
  obtain ⟨W0, hW0⟩ : ∃ W0, ((w.alloc (.cells #[.slice A0 N cap0] 214)).alloc (.cells #[.int .i64 5, .string s, .int .i64 n, .int .u64 re, .int .u64 im, .slice (some ⟨b, o, none⟩) len cap, .int .i64 (d : Int)] 213)).alloc (.cells #[.slice (some ⟨b, o, none⟩) len cap] 23) = W0 := ⟨_, rfl⟩
  have hel3 : Els W0 b o es := by
    rw [← hW0]
    intro j e he
    obtain ⟨c0, c1, c2, c3, c4, c5⟩ := hel j e he
    have z : ∀ q, ((((w.alloc (.cells #[.slice A0 N cap0] 214)).alloc (.cells #[.int .i64 5, .string s, .int .i64 n, .int .u64 re, .int .u64 im, .slice (some ⟨b, o, none⟩) len cap, .int .i64 (d : Int)] 213)).alloc (.cells #[.slice (some ⟨b, o, none⟩) len cap] 23))).cell? ⟨b, q, none⟩ = w.cell? ⟨b, q, none⟩ := fun q => x3.cell (p := ⟨b, q, none⟩) hbl (by show own b ∉ [id]; rw [hob]; simpa using hid.symm)
    exact ⟨(z _).trans c0, (z _).trans c1, (z _).trans c2, (z _).trans c3, (z _).trans c4, (z _).trans c5⟩
  have hsz : W0.heap.size = w.heap.size + 3 := by rw [← hW0]; simp
  generalize _root_.Go.Proofs.Ytlmcfclonncgbaa.give (_root_.Go.Proofs.Ytlmcfclonncgbaa.give (_root_.Go.Proofs.Ytlmcfclonncgbaa.give own w.heap.size (F0 + id + 1)) (w.heap.size + 1) (F0 + id + 2)) (w.heap.size + 1 + 1) (F0 + id + 2) = o3 at *
  have hcn := k3.cell 0 rfl
  rw [hW0] at x3 k1 k2 k3 r3 hcn ⊢
  clear hW0 x1 x2 y1 y2 y3 r1 r2
  have hG : F0 + id + 1 ∉ [id, F0 + id + 1] ↔ False := by simp
  have hH : F0 + id + 2 ∉ [id, F0 + id + 1] := by simp; omega
  refine wpIn_wide.1 (wpIn_rangeFunc_ownH (F := Fence.wide) (n := 9) rfl (by omega) (gf := 165) (lb := #[.pointer (some ⟨w.heap.size + 1 + 1, 0, none⟩)]) rfl trivial (enters_of Try.func165 (by kernel_rfl) rfl)
    (bw_stops Fence.wide 8 trivial rfl (by omega) (w.heap.size + 1 + 1) b o len cap es hes hle (fun k => k = w.heap.size + 1 + 1 ∨ k = b) (Or.inl rfl) (Or.inr rfl) W0 (by omega) (by omega) hcn hel3)
    (fun h k => h.trans k) (KpS.book (by rintro k (rfl | rfl) <;> omega)) (Below.refl _ _) (fun _ => rfl)
    (fun pre W => ∃ own' v', Ext o3 own' [id, F0 + id + 1] W0 W ∧ Blk own' (F0 + id + 1) W w.heap.size [v'] 214 ∧ Row own' id W 213 7 v' (N + pre.length) (atCells (L ++ pre.map (atOf (d + 1)))))
    (fun _ _ _ => False) ?hI (fun _ _ _ _ _ hs _ _ => hs) ⟨o3, _, Ext.refl _ _ _, k1, by simpa using r3⟩
    (fun x a' W => ∃ Bx, W0.heap.size ≤ Bx ∧ W.heap[Bx]? = some (.cells #[.int .i64 x.t.kind, .string x.t.name, .int .i64 x.t.int, .int .u64 x.t.re, .int .u64 x.t.im, .slice x.A x.l x.c] 25 (0, 0)) ∧ a' = { tmps := #[.slice A0 N cap0, .agg #[.int .i64 5, .string s, .int .i64 n, .int .u64 re, .int .u64 im, .slice (some ⟨b, o, none⟩) len cap, .int .i64 (d : Int)], .pointer (some ⟨w.heap.size, 0, none⟩), .pointer (some ⟨w.heap.size + 1, 0, none⟩), .slice none 0 0, undef, .pointer (some ⟨Bx, 0, none⟩), .pointer (some ⟨w.heap.size + 1, 0, none⟩), .pointer (some ⟨w.heap.size + 1, 0, none⟩), .int .i64 5, .bool true, .pointer (some ⟨w.heap.size + 1, 0, none⟩), .pointer (some ⟨w.heap.size + 1, 5, none⟩), .slice (some ⟨b, o, none⟩) len cap, .func (.func 165) #[] #[.pointer (some ⟨w.heap.size + 1 + 1, 0, none⟩)], .int .i64 (x.k : Int), .agg #[.int .i64 x.t.kind, .string x.t.name, .int .i64 x.t.int, .int .u64 x.t.re, .int .u64 x.t.im, .slice x.A x.l x.c], undef, undef, undef, undef, undef, undef, undef, undef, undef], defers := [] })
    ?hAx ?assign ?body ?done ?stop)
  case hI =>
    rintro pre W W' row ⟨own', v', x, kb, kr⟩ hg hr
    exact ⟨own', v', x.grown hg (fun k hk hlt => by have := (hr k hk).1; omega), kb.grownNC hg hr, kr.grownNC hg hr⟩
  case hAx =>
    rintro x a' u W W' row ⟨Bx, h1, h2, h3⟩ hg hr
    refine ⟨Bx, h1, (hg.block Bx (Array.getElem?_eq_some_iff.1 h2).1 (fun e => ?_)).trans h2, h3⟩
    obtain ⟨_, ob, ho, hc⟩ := hr Bx e.symm
    rw [h2] at ho
    cases ho
    cases hc
  case assign =>
    rintro l pre x W K ⟨own', v', xe, kb, kr⟩ hK
    unfold encs
    gi_wp2
    have hlt := xe.size
    exact hK _ _ ((KeepsOthers.alloc _ _).from _) (fun k hk => Below.heap_alloc _ _ _ (by rcases hk with rfl | rfl <;> omega)) ⟨own', v', xe.alloc _, kb.alloc _, kr.alloc _⟩ ⟨W.heap.size, hlt, heap_alloc_new _ _, rfl⟩
  case body =>
    rintro l pre x a' W hl hrec ⟨own', v', xe, kb, kr⟩ ⟨Bx, hBx, hxc, rfl⟩ hpre
    have k2' := k2.keep xe hH
    have c2 := kb.cell 0 rfl
    have f2 := kb.free 0
    have c3 := k2'.cell 6 rfl
    have hx : Blk own' (own' Bx) W Bx [.int .i64 x.t.kind, .string x.t.name, .int .i64 x.t.int, .int .u64 x.t.re, .int .u64 x.t.im, .slice x.A x.l x.c] 25 := ⟨hxc, rfl⟩
    have b0 := hx.cell 0 rfl
    have b1 := hx.cell 1 rfl
    have b2 := hx.cell 2 rfl
    have b3 := hx.cell 3 rfl
    have b4 := hx.cell 4 rfl
    have b5 := hx.cell 5 rfl
    obtain ⟨A1, cp1, rfl, hc1⟩ := kr.form
    gi_wp2_with (gi_at_builtin; refine wpListIn_append_row rfl _ _ 214 rfl 213 (.agg #[.int .i64 0, .string ByteArray.empty, .int .i64 0, .int .u64 0, .int .u64 0, .slice none 0 0, .int .i64 0]) 7 80 Try.underlying214 info_at rfl (by decide) (by decide) rfl rfl rfl (by intro u hu; simp at hu; rcases hu with rfl | rfl | rfl | rfl | rfl | rfl | rfl <;> rfl) kr (by omega) ?_)
    intro g cp2 w1 own1 kr1 xe1 ko1
    have kb1 := kb.keep xe1 (by simp; omega)
    have c2' := kb1.cell 0 rfl
    have f2' := kb1.free 0
    have k3' := (k3.keep xe hH)
    have hb' : own' b = 0 := (xe.own b (by omega)).trans hob3
    have hWs := xe.size
    clear c2 f2
    gi_wp2
    refine ⟨(ko1.trans (KeepsOthers.setCell _ _ _)).from _, fun k hk => ?_, own1, _, (xe.trans (xe1.mono (by simp))).setCell _ _ (fun _ => by show o3 w.heap.size ∈ _; rw [k1.2]; simp), kb1.set 0 _, ?_⟩
    · have hk2 : k ≠ w.heap.size := by rcases hk with rfl | rfl <;> omega
      refine (Below.heap_setCell _ _ _ _ hk2).trans (xe1.block k (by rcases hk with rfl | rfl <;> omega) ?_)
      rcases hk with rfl | rfl
      · rw [k3'.2]; simp; omega
      · rw [hb']; simpa using hid.symm
    · have hne := kr1.ne_id kb1 (by omega)
      have := kr1.far (p := ⟨w.heap.size, 0, none⟩) hne (.slice (some ⟨g, 0, none⟩) (N + pre.length + 1) cp2)
      rw [List.map_append, ← List.append_assoc, atCells_append, List.length_append, ← Nat.add_assoc]
      exact this
  case done =>
    rintro D ys W hD rfl ⟨own', v', xe, kb, kr⟩ hK
    have c2 := kb.cell 0 rfl
    have hWs := xe.size
    obtain ⟨A1, cp1, rfl, hc1⟩ := kr.form
    go_wp2
    refine ⟨by simp, .inl ⟨_, _, rfl, run_takeDeferred hK, ?_⟩⟩
    refine ⟨_, results_tmp rfl _ _ _, ?_⟩
    have hgr := grownBy_putObj' W D (.deferred none)
    have hput := kr.grownNC (B := W0.heap.size) hgr (fun r e => by cases e; exact ⟨hD, _, hK, rfl⟩)
    rw [bwUp_length len (by omega)] at hput
    refine ⟨own', ?_, _, rfl, ?_⟩
    · have x4 := (x3.mono (jds := [id, F0 + id + 1]) (by simp)).trans xe
      exact (x4.dropF (fun b hb => by have := hF b hb; omega)).grown hgr (fun k hk hlt => by cases hk; omega)
    · rw [bwUp_length len (by omega)]
      exact hput
  case stop =>
    rintro D c pre W _ _ h _
    exact h.elim

theorem bwUp_terms {es : List (Tm × Option Addr × Nat × Nat)} {h : es.length ≤ 1000000} : ∀ k, k ≤ es.length → (bwUp es h k).map (·.t) = ((es.drop (es.length - k)).map (·.1)).reverse ∧ ∀ x ∈ bwUp es h k, (x.t, x.A, x.l, x.c) ∈ es
  | 0, _ => by simp [bwUp]
  | k + 1, hk => by
    obtain ⟨e, he⟩ : ∃ e, es[es.length - 1 - k]? = some e := ⟨_, List.getElem?_eq_getElem (by omega)⟩
    have hb : es.length - 1 - k < 1000000 := by omega
    obtain ⟨i1, i2⟩ := bwUp_terms (es := es) (h := h) k (by omega)
    rw [bwUp_succ he hb]
    obtain ⟨hlt, hget⟩ := List.getElem?_eq_some_iff.1 he
    constructor
    · rw [List.map_append, i1, show es.length - (k + 1) = es.length - 1 - k by omega, List.drop_eq_getElem_cons hlt, hget, show es.length - 1 - k + 1 = es.length - k by omega]
      simp
    · intro x hx
      rcases List.mem_append.1 hx with hx | hx
      · exact i2 x hx
      · simp at hx
        subst hx
        exact List.mem_of_getElem? he

set_option maxRecDepth 100000 in
set_option maxHeartbeats 2000000 in
/-- The arguments of a node that may be are put on the stack, so that the first comes first. -/
theorem tpush_any (x : AtX) (own : Nat → Nat) (id : Nat) (w : World) (v : Value) (N : Nat) (L : List AtX) (hR : Row own id w 213 7 v N (atCells L)) (hLN : L.length = N) (hid : id ≠ 0)
    (hT : TmS own w x.t (.slice x.A x.l x.c)) (h1 : oneE x.t = 0) (hd : x.d ≤ 1000) (hN : N ≤ 1000000) :
    Calls Try.prog 157 #[v, .agg #[.int .i64 x.t.kind, .string x.t.name, .int .i64 x.t.int, .int .u64 x.t.re, .int .u64 x.t.im, .slice x.A x.l x.c, .int .i64 (x.d : Int)]] w
      (Does own [id] w fun own' e w' => ∃ v' K, e = .returned v' ∧ Row own' id w' 213 7 v' (N + K.length) (atCells (L ++ K)) ∧ (K.map (fun y : AtX => (y.t, y.d))).reverse = kidsOf x.t x.d ∧ (∀ y ∈ K, TmS own' w' y.t (.slice y.A y.l y.c)) ∧ K.length ≤ 20) := by
  obtain ⟨t, A, len, cap, d⟩ := x
  obtain ⟨k, s, n, re, im, args⟩ := t
  obtain ⟨A', len', cap', he, hL⟩ := hT.args
  simp only [Value.slice.injEq] at he
  obtain ⟨rfl, rfl, rfl⟩ := he
  replace hL : TmL own w args A len cap := hL
  obtain ⟨o1, o2, o3, o4, o5⟩ := oneE_zero.1 h1
  by_cases h5 : k = 5
  · subst h5
    obtain ⟨p1, p2, p3⟩ := o5 rfl
    have hlen := hL.1
    obtain ⟨es, e1, e2, e3, b, o, rfl, hb, ho, hel⟩ := hL.els (by omega)
    have hle : es.length ≤ 1000000 := by omega
    refine (push_comp s n re im args _ len cap d own id w v N L hR hLN hid hL (by omega) (by omega) hd hN es e1 hle b o rfl hb ho hel).mono ?_
    rintro e w' ⟨own', x', v', rfl, hr⟩
    obtain ⟨q1, q2⟩ := bwUp_terms (es := es) (h := hle) len (by omega)
    refine ⟨own', x', v', _, rfl, by rw [List.length_map, bwUp_length (es := es) (h := hle) len (by omega)]; exact hr, ?_, ?_, ?_⟩
    · have hk : kidsOf (Tm.mk 5 s n re im args) d = args.map (fun a => (a, d + 1)) := by unfold kidsOf; rw [if_pos (show (Tm.mk 5 s n re im args).kind = 5 from rfl)]; rfl
      show _ = kidsOf (Tm.mk 5 s n re im args) d
      rw [hk]
      have z := congrArg (List.map (fun a => (a, d + 1))) q1
      rw [show es.length - len = 0 by omega, List.drop_zero, e2] at z
      simp only [List.map_map, List.map_reverse] at z ⊢
      have z2 : List.map ((fun y : AtX => (y.t, y.d)) ∘ atOf (d + 1)) (bwUp es hle len) = List.map ((fun a => (a, d + 1)) ∘ fun x : BX => x.t) (bwUp es hle len) := rfl
      rw [z2, z, List.reverse_reverse]
    · intro y hy
      obtain ⟨z, hz, rfl⟩ := List.mem_map.1 hy
      exact TmS.keep x' (by simpa using hid.symm) z.t _ (e3 _ (q2 z hz))
    · rw [List.length_map, bwUp_length (es := es) (h := hle) len (by omega)]; omega
  · have h5' : (k == 5) = false := by simpa using h5
    have hk : kidsOf (.mk k s n re im args) d = [] := by unfold kidsOf; rw [if_neg (by exact h5)]
    obtain ⟨A0, cap0, rfl, hc0⟩ := hR.form
    have HR := Lib.hid hR
    have HK := Lib.hid hk
    clear hT hL h1 o3 o4 o5 hR hk
    dsimp only [Tm.kind, Tm.name, Tm.int, Tm.re, Tm.im]
    go_enter Try.func157, Try.ntmps157
    go_wp2_with fail
    go_ret
    exact ⟨own, ((Ext.refl own [id] w).alloc _).alloc _, _, rfl, [], by simpa using (HR.out.alloc _).alloc _, by simpa using HK.out.symm, by simp, by simp⟩

end Go.Proofs.Ytlmcfclonncgbaa
/- A row of terms that one's own calls have let grow becomes a slice of terms that is nobody's to write. -/
namespace Go.Proofs.Ytlmcfclonncgbaa
open Go.RowKit
set_option linter.unusedVariables false
set_option linter.unusedSimpArgs false

theorem wp_calmN {P : Program} {c : Code} {Q : Exit → Act → World → Prop} {a : Act} {w : World} (h : c.wp P (Exit.then (fun a w => Q .normal a w) (fun _ _ _ => False)) a w) : c.wp P Q a w := by
  intro b k cs
  obtain ⟨e, a', w', q, r⟩ := h b k cs
  refine ⟨e, a', w', ?_, r⟩
  cases e <;> first | exact q | exact q.elim
def termCells (l : List (Tm × Value)) : List Value := l.flatMap fun z => cellsT z.1 z.2
theorem termCells_length (l : List (Tm × Value)) : (termCells l).length = l.length * 6 := by
  induction l with
  | nil => rfl
  | cons x l ih => simp only [termCells, List.flatMap_cons, List.length_append] at *; rw [ih]; simp [cellsT]; omega
theorem termCells_append (a b : List (Tm × Value)) : termCells (a ++ b) = termCells a ++ termCells b := by simp [termCells]
theorem info_term : (Try.prog.info? 25).map (fun i => (i.zero, i.size, i.bytes)) = some (some (.agg #[.int .i64 0, .string ByteArray.empty, .int .i64 0, .int .u64 0, .int .u64 0, .slice none 0 0]), 6, 72) := by kernel_rfl
theorem cellsT_one (t : Tm) (A : Option Addr) (len cap : Nat) : ∀ u ∈ cellsT t (.slice A len cap), u.oneCell' = true := by
  intro u hu
  simp [cellsT] at hu
  rcases hu with rfl | rfl | rfl | rfl | rfl | rfl <;> rfl
section
variable {own : Nat → Nat} {w : World}
mutual
theorem TmS.give (g : Nat) : ∀ (t : Tm) (sl : Value), TmS own w t sl → TmS (give own g 0) w t sl
  | .mk k s n re im args, sl, h => by
    obtain ⟨h0, A, len, cap, h1, h2, h3, h4, h5⟩ := h
    exact ⟨h0, A, len, cap, h1, h2, h3, h4, TmE.give g A 0 args h5⟩
theorem TmE.give (g : Nat) (A : Option Addr) : ∀ (i : Nat) (l : List Tm), TmE own w A i l → TmE (_root_.Go.Proofs.Ytlmcfclonncgbaa.give own g 0) w A i l
  | _, [], _ => trivial
  | i, t :: ts, ⟨⟨b, o, sl, h1, h2, h3, h4, h5⟩, h6⟩ =>
    ⟨⟨b, o, sl, h1, h2, by unfold _root_.Go.Proofs.Ytlmcfclonncgbaa.give; split <;> simp_all, TmS.give g t sl h4, h5⟩, TmE.give g A (i + 1) ts h6⟩
end
end
/-- The row given away. -/
theorem Row.terms {own : Nat → Nat} {id : Nat} {w : World} {v : Value} {l : List (Tm × Value)} (hr : Row own id w 25 6 v l.length (termCells l)) (hT : ∀ z ∈ l, TmS own w z.1 z.2) :
    ∃ own' A cap, v = .slice A l.length cap ∧ TmL own' w (l.map (·.1)) A l.length cap ∧ (∀ b, own b ≠ id → own' b = own b) ∧ ∀ (o : Nat → Nat) (ids : List Nat) (w0 : World), Ext o own ids w0 w → (∀ b, b < w0.heap.size → o b ≠ id) → Ext o own' ids w0 w := by
  rcases hr.1.2 with ⟨rfl, hn⟩ | ⟨g, cap, cur, rfl, hg, hh, hnc, hcm, _⟩
  · have hl : l = [] := List.eq_nil_of_length_eq_zero hn
    subst hl
    exact ⟨own, none, 0, rfl, TmL.nil, fun _ _ => rfl, fun o ids w0 x _ => x⟩
  · have hgid : own g = id := hr.2 g rfl
    have hlt : g < w.heap.size := hr.lt g rfl
    refine ⟨give own g 0, some ⟨g, 0, none⟩, cap, rfl, ⟨by simp, hnc, hcm, TmE.of _ _ fun j t ht => ?_⟩, fun b hb => by unfold give; rw [if_neg (fun e : b = g => hb (by rw [e]; exact hgid))], fun o ids w0 x hx => ⟨x.os, x.tape, x.output, x.size, fun b hb => ?_, x.block⟩⟩
    · rw [List.getElem?_map] at ht
      cases hz : l[j]? with
      | none => rw [hz] at ht; simp at ht
      | some z =>
        rw [hz] at ht
        simp at ht
        subst ht
        refine ⟨g, 0, z.2, rfl, hlt, give_same _ _ _, TmS.give g z.1 _ (hT z (List.mem_of_getElem? hz)), fun q u hu => ?_⟩
        have := hr.cell ((0 + j) * 6 + q) (by rw [Nat.zero_add]; exact flat6 l j z hz q u hu)
        rwa [Nat.zero_add]
    · unfold give
      rw [if_neg (fun e : b = g => ?_)]
      · exact x.own b hb
      · subst e
        exact hx b hb ((x.own b hb).symm.trans hgid)
theorem kargs {t : Tm} (h : Kinds t) : t.kind = 5 → ∀ a ∈ t.args, Kinds a := by
  cases h with
  | leaf h1 h4 => intro h5; have h5' : _ = (5 : Int) := h5; dsimp only [Tm.kind] at h5'; omega
  | comp h => exact fun _ => h
theorem fargs : ∀ (l : List Tm), fines (cls l) → ∀ a ∈ l, fine (cl a)
  | [], _, a, ha => by simp at ha
  | b :: l, h, a, ha => by
    rcases List.mem_cons.1 ha with rfl | ha
    · exact h.1
    · exact fargs l h.2 a ha
theorem fine_comp {n re im : Int} {s : ByteArray} {args : List Tm} (h : fine (cl (.mk 5 s n re im args))) : 1 ≤ args.length ∧ args.length ≤ 20 ∧ ∀ a ∈ args, fine (cl a) := by
  have e : cl (.mk 5 s n re im args) = .comp s (cls args) := rfl
  rw [e] at h
  obtain ⟨_, h1, h2, h3⟩ := h
  rw [cls_length] at h1 h2
  exact ⟨h1, h2, fargs args h3⟩
theorem fine_slim {t : Tm} (h : fine (cl t)) : t.kind = 5 → t.args.length ≤ 20 ∧ ∀ a ∈ t.args, fine (cl a) := by
  obtain ⟨k, s, n, re, im, args⟩ := t
  intro h5
  obtain rfl : k = 5 := h5
  exact (fine_comp h).2
theorem take_step {α β : Type} (f : α → β) (l : List α) (j : Nat) (t : α) (h : l[j]? = some t) : (l.take j).map f ++ [f t] = (l.take (j + 1)).map f := by
  rw [List.take_add_one, h]; simp
/-- What a function that makes terms answers. -/
def MadeT (own : Nat → Nat) (w : World) (c : CT) : Ending → World → Prop := Does own [] w fun own' e w' => ∃ A len cap, e = .returned (valT (un c) (.slice A len cap)) ∧ TmS own' w' (un c) (.slice A len cap)

end Go.Proofs.Ytlmcfclonncgbaa
/- The reference's Vars (package elenchusref1): the variables of a term, as they are met. -/
namespace Go.Proofs.Ytlmcfclonncgbaa
open Go.RowKit
set_option linter.unusedVariables false
set_option linter.unusedSimpArgs false

mutual
/-- The variables behind those that were met. -/
def varsF : Tm → List Int → List Int
  | .mk k s n re im args, L => if k = 1 then (if n ∈ L then L else L ++ [n]) else if k = 5 then varsFs args L else L
def varsFs : List Tm → List Int → List Int
  | [], L => L
  | t :: ts, L => varsFs ts (varsF t L)
end
theorem varsFs_cons (t : Tm) (ts : List Tm) (L : List Int) : varsFs (t :: ts) L = varsFs ts (varsF t L) := rfl
mutual
def nvF : Tm → Nat
  | .mk k s n re im args => if k = 1 then 1 else if k = 5 then nvFs args else 0
def nvFs : List Tm → Nat
  | [] => 0
  | t :: ts => nvF t + nvFs ts
end
theorem nvFs_cons (t : Tm) (ts : List Tm) : nvFs (t :: ts) = nvF t + nvFs ts := rfl
theorem varsF_len : ∀ (t : Tm) (L : List Int), (varsF t L).length ≤ L.length + nvF t := by
  refine Tm.ind ?_
  intro k s n re im args ih L
  unfold varsF nvF
  split
  · split <;> simp
  · split
    · have key : ∀ l : List Tm, (∀ a ∈ l, a ∈ args) → ∀ L : List Int, (varsFs l L).length ≤ L.length + nvFs l := by
        intro l
        induction l with
        | nil => intro _ L; simp [varsFs]
        | cons a l ih2 =>
          intro hl L
          rw [varsFs_cons, nvFs_cons]
          have h1 := ih a (hl a (by simp)) L
          have h2 := ih2 (fun x hx => hl x (by simp [hx])) (varsF a L)
          omega
      exact key args (fun _ h => h) L
    · simp
theorem info_i64 : (Try.prog.info? 2).map (fun i => (i.zero, i.size, i.bytes)) = some (some (.int .i64 0), 1, 8) := by kernel_rfl
abbrev IRow (own : Nat → Nat) (id : Nat) (w : World) (v : Value) (L : List Int) : Prop := Row own id w 2 1 v L.length (L.map (Value.int .i64))
set_option maxHeartbeats 1600000 in
set_option maxRecDepth 100000 in
theorem vars_any (id : Nat) (hid : id ≠ 0) : ∀ (t : Tm) (sl v : Value) (L : List Int) (own : Nat → Nat) (w : World), TmS own w t sl → IRow own id w v L → L.length + nvF t ≤ 1000000 →
    Calls Try.prog 89 #[valT t sl, v] w (Does own [id] w fun own' e w' => ∃ v', e = .returned v' ∧ IRow own' id w' v' (varsF t L)) := by
  refine Tm.ind ?_
  intro k s n re im args ih sl v L own w h hr hb
  obtain ⟨A, len, cap, rfl, hL⟩ := h.args
  rw [valT_mk]
  have hlen : args.length = len := hL.1
  clear h
  unfold nvF at hb
  unfold varsF
  obtain ⟨x1, kb, y1⟩ := (Ext.refl own [id] w).box [.int .i64 k, .string s, .int .i64 n, .int .u64 re, .int .u64 im, .slice A len cap] 25 (id + 1)
  replace hr := hr.keep y1 (by simp)
  replace hL : TmL _ _ args A len cap := hL.keep y1 (by simp)
  generalize _root_.Go.Proofs.Ytlmcfclonncgbaa.give own w.heap.size (id + 1) = o1 at *
  have c0 := kb.cell 0 rfl
  have c1 := kb.cell 1 rfl
  have c2 := kb.cell 2 rfl
  have c5 := kb.cell 5 rfl
  have HX := Lib.hid x1
  have HR := Lib.hid hr
  have HB := Lib.hid hb
  clear x1 y1 hb
  obtain ⟨W1, hW1⟩ : ∃ W1, w.alloc (.cells #[.int .i64 k, .string s, .int .i64 n, .int .u64 re, .int .u64 im, .slice A len cap] 25) = W1 := ⟨_, rfl⟩
  by_cases h1 : k = 1
  · subst h1
    rw [if_pos rfl] at HB ⊢
    clear ih
    obtain ⟨R, hRR⟩ : ∃ R, (if n ∈ L then L else L ++ [n]) = R := ⟨_, rfl⟩
    rw [hRR]
    have HRR := Lib.hid hRR
    clear hRR
    obtain ⟨A0, cp0, rfl, hcp0⟩ := hr.form
    rw [hW1] at c0 c1 c2 c5 HX HR hr
    have hlen0 := HB.out
    have hL6 : (L.length : Int) ≤ 9223372036854775806 := by omega
    go_enter Try.func89, Try.ntmps89
    go_wp2_with fail
    go_loopw [14] (fun v wr => ∃ (j : Nat), v = .int .i64 j ∧ j ≤ L.length ∧ wr = W1 ∧ ∀ i, i < j → L[i]? ≠ some n) (fun v _ => L.length - (intOf v).toNat)
    case atStart => exact ⟨0, rfl, Nat.zero_le _, rfl, fun i hi => absurd hi (Nat.not_lt_zero i)⟩
    case round =>
      obtain ⟨j, rfl, hj, rfl, hno⟩ := hrel
      by_cases hlt : j < L.length
      · obtain ⟨g, cp, hv, _⟩ := hr.form_pos (by omega)
        simp only [Value.slice.injEq] at hv
        obtain ⟨rfl, _, rfl⟩ := hv
        have hx := hr.cell j (u := .int .i64 L[j]) (by simp [hlt])
        have hgj : L[j]? = some L[j] := List.getElem?_eq_getElem hlt
        obtain ⟨y, hy⟩ : ∃ y, L[j] = y := ⟨_, rfl⟩
        rw [hy] at hx hgj
        clear hy
        have HNO := Lib.hid hno
        clear hno
        by_cases he : y = n
        · subst he
          have hmem : y ∈ L := List.mem_of_getElem? hgj
          have heR : L = R := by rw [← HRR.out, if_pos hmem]
          have HM := Lib.hid heR
          clear heR
          clear hmem hgj
          go_wp2_with fail
          go_ret
          exact ⟨o1, HX.out, _, rfl, by rw [← HM.out]; exact HR.out⟩
        · have he' : (y == n) = false := by simpa using he
          have HE := Lib.hid (And.intro he hgj)
          clear he hgj
          go_wp2_with fail
          go_roundw
          case measure => simp [intOf]; omega
          refine ⟨j + 1, by go_num, by omega, by first | trivial | rfl, fun i hi => ?_⟩
          by_cases hij : i < j
          · exact HNO.out i hij
          · obtain rfl : i = j := by omega
            rw [HE.out.2]
            simpa using HE.out.1
      · obtain rfl : j = L.length := by omega
        have hnm : n ∉ L := fun hm => by
          obtain ⟨i, hi, hin⟩ := List.getElem_of_mem hm
          exact hno i hi (by rw [List.getElem?_eq_getElem hi, hin])
        have heR : L ++ [n] = R := by rw [← HRR.out, if_neg hnm]
        have HN := Lib.hid heR
        clear heR hnm hno
        have hl8 : (L.length + 1) * 8 ≤ 140737488355328 := by omega
        have HAPP := Lib.hid (fun (ops : Array Oper) (rest : List Oper) (o : Oper) (a : Act) (Q : Exit → Act → World → Prop) (hgd : o.guard = none) (ho : o.op = .call { callee := .builtin .append, args := #[.tmp 24, .tmp 27], argTypes := #[42, 42] }) (hs : a.eval (.tmp 24) = _) (hx : a.eval (.tmp 27) = _) => wpList_append_row (P := Try.prog) (ops := ops) (rest := rest) (o := o) (a := a) (Q := Q) hgd (.tmp 24) (.tmp 27) 42 ho 2 (.int .i64 0) 1 8 Try.underlying42 info_i64 rfl (by decide) (by decide) hs hx (ys := [.int .i64 n]) rfl (one_cell' _ rfl) HR.out hl8)
        go_wp2_with (at_builtin; refine HAPP.out _ _ _ _ _ rfl rfl rfl rfl ?_)
        intro g cap' w1 own1 hr1 x1 hk1 hz
        go_wp2_with fail
        go_ret
        refine ⟨own1, HX.out.trans x1, _, rfl, ?_⟩
        rw [← HN.out]
        simpa [IRow] using hr1
  · rw [if_neg h1] at HB ⊢
    have h1' : (k == 1) = false := by simpa using h1
    by_cases h5 : k = 5
    · subst h5
      rw [if_pos rfl] at HB ⊢
      have hmax := hL.2.2.1
      have hle := hL.2.1
      unfold maxLen at hmax
      have HL := Lib.hid (And.intro hL hlen)
      have HIH := Lib.hid ih
      clear ih hL hlen hr
      rw [hW1] at c0 c1 c2 c5 HX HR HL
      have HW := Lib.hid hW1
      go_enter Try.func89, Try.ntmps89
      go_wp2_with fail
      go_loopw [35, 1] (fun u v2 wr => ∃ (j : Nat) (L2 : List Int) (own' : Nat → Nat), u = .int .i64 j ∧ j ≤ len ∧ Ext o1 own' [id] W1 wr ∧ IRow own' id wr v2 L2 ∧ varsFs (args.drop j) L2 = varsFs args L ∧ L2.length + nvFs (args.drop j) ≤ 1000000) (fun u _ _ => len - (intOf u).toNat)
      case atStart => exact ⟨0, L, o1, rfl, by omega, Ext.refl _ _ _, HR.out, rfl, HB.out⟩
      case round =>
        obtain ⟨j, L2, own', rfl, hj, x, hr2, hinv, hbd⟩ := hrel
        by_cases hlt : j < len
        · have hL := HL.out.1.keep x (by simpa using Ne.symm hid)
          obtain ⟨b, o, rfl⟩ := hL.addr (by omega)
          obtain ⟨t, sl, ht, hT, e0, e1, e2, e3, e4, e5⟩ := hL.at j hlt
          have hmem := List.mem_of_getElem? ht
          have hdrop : args.drop j = t :: args.drop (j + 1) := by rw [List.drop_eq_getElem_cons (List.getElem?_eq_some_iff.1 ht).1, (List.getElem?_eq_some_iff.1 ht).2]
          rw [hdrop, varsFs_cons] at hinv
          rw [hdrop, nvFs_cons] at hbd
          obtain ⟨A', l', cp', rfl, _⟩ := hT.args
          have xa := (Ext.refl own' [id] wr).alloc (.cells #[.int .i64 t.kind, .string t.name, .int .i64 t.int, .int .u64 t.re, .int .u64 t.im, .slice A' l' cp'] 25)
          have hT2 := TmS.keep xa (by simpa using Ne.symm hid) t _ hT
          have hr3 := hr2.keep (ids := []) ((Ext.refl own' [] wr).alloc (.cells #[.int .i64 t.kind, .string t.name, .int .i64 t.int, .int .u64 t.re, .int .u64 t.im, .slice A' l' cp'] 25)) (by simp)
          have hcall := HIH.out t hmem _ _ L2 own' _ hT2 hr3 (by omega)
          have hvl := varsF_len t L2
          have HC := Lib.hid (And.intro hcall (And.intro hinv (And.intro (x.trans xa) (And.intro hbd hvl))))
          clear hcall hinv hT2 hr3 hr2 xa hT hmem ht hdrop hL hbd hvl
          go_wp2_with fail
          refine HC.out.1.mono ?_
          rintro e w2 ⟨own2, x2, v3, rfl, hr4⟩
          go_wp2_with fail
          go_roundw
          case measure => simp [intOf]; omega
          exact ⟨j + 1, _, own2, by go_num, by omega, HC.out.2.2.1.trans x2, hr4, HC.out.2.1, by have := HC.out.2.2.2; omega⟩
        · obtain rfl : j = len := by omega
          have hd : args.drop j = [] := List.drop_eq_nil_of_le (by rw [HL.out.2]; exact Nat.le_refl _)
          rw [hd] at hinv
          have HI := Lib.hid (And.intro hinv (And.intro x hr2))
          clear hinv hd hr2 x hbd
          go_wp2_with fail
          go_ret
          refine ⟨own', HX.out.trans HI.out.2.1, _, rfl, ?_⟩
          have e : L2 = varsFs args L := HI.out.1
          rw [← e]; exact HI.out.2.2
    · rw [if_neg h5] at HB ⊢
      have h5' : (k == 5) = false := by simpa using h5
      clear hW1
      go_enter Try.func89, Try.ntmps89
      go_wp2_with fail
      go_ret
      exact ⟨o1, HX.out, _, rfl, HR.out⟩
/-- Vars whole: of a term that may be; else nil. -/
theorem rvars_any (id : Nat) (hid : id ≠ 0) (t : Tm) (sl : Value) (own : Nat → Nat) (w : World) (h : TmS own w t sl) (hb : nvF t ≤ 1000000) (hm : mayE t = 0) :
    Calls Try.prog 32 #[valT t sl] w (Does own [id] w fun own' e w' => ∃ v', e = .returned v' ∧ IRow own' id w' v' (varsF t [])) := by
  obtain ⟨A, len, cap, rfl, hL⟩ := h.args
  have e : valT t (.slice A len cap) = .agg #[.int .i64 t.kind, .string t.name, .int .i64 t.int, .int .u64 t.re, .int .u64 t.im, .slice A len cap] := rfl
  have hm' : (mayE t == 0) = true := by simpa using hm
  obtain ⟨x1, kb, y1⟩ := (Ext.refl own [id] w).box [.int .i64 t.kind, .string t.name, .int .i64 t.int, .int .u64 t.re, .int .u64 t.im, .slice A len cap] 25 (id + 1)
  replace h := TmS.keep y1 (by simp) t _ h
  rw [e]
  generalize _root_.Go.Proofs.Ytlmcfclonncgbaa.give own w.heap.size (id + 1) = o1 at *
  have c0 := kb.cell 0 rfl
  have c1 := kb.cell 1 rfl
  have c2 := kb.cell 2 rfl
  have c3 := kb.cell 3 rfl
  have c4 := kb.cell 4 rfl
  have c5 := kb.cell 5 rfl
  have HX := Lib.hid x1
  have HM := Lib.hid hm
  clear x1 y1 hL hm
  go_enter Try.func32, Try.ntmps32
  go_wp2_with (first
    | (go_at_call 24; have hc := rmay_any t _ o1 _ h; rw [e] at hc; refine hc.mono ?_; rintro e w4 ⟨own4, x4, rfl⟩; have k4 := kb.keep x4 (by simp); have hT4 := TmS.keep x4 (by simp) t _ h; have d0 := k4.cell 0 rfl; have d1 := k4.cell 1 rfl; have d2 := k4.cell 2 rfl; have d3 := k4.cell 3 rfl; have d4 := k4.cell 4 rfl; have d5 := k4.cell 5 rfl)
    | (go_at_call 89; have hc := vars_any id hid t _ (.slice none 0 0) [] own4 _ hT4 (Row.nil _ _ _ _ _) (by simpa using hb); rw [e] at hc; refine hc.mono ?_; rintro e w5 ⟨own5, x5, v5, rfl, hr5⟩))
  go_ret
  exact ⟨own5, HX.out.trans ((x4.mono (by simp)).trans x5), v5, rfl, hr5⟩

end Go.Proofs.Ytlmcfclonncgbaa
/- The law StoreSmall: the closure that counts the cells that a term needs. -/
namespace Go.Proofs.Ytlmcfclonncgbaa
open Go.RowKit
set_option linter.unusedVariables false
set_option linter.unusedSimpArgs false

mutual
/-- How many cells a term needs. -/
def cntF : Tm → Bool → Nat
  | .mk k s n re im args, top => if k = 3 then (if isSmall n then 0 else 1) else if k = 4 then 2 else if k = 1 then (if top then 1 else 0) else if k = 5 then 1 + args.length + cntFs args else 0
def cntFs : List Tm → Nat
  | [] => 0
  | t :: ts => cntF t false + cntFs ts
end
theorem cntFs_cons (t : Tm) (ts : List Tm) : cntFs (t :: ts) = cntF t false + cntFs ts := rfl
theorem rsmall_yes (n : Int) (w : World) (h : -9223372036854775808 ≤ n ∧ n ≤ 9223372036854775807) (hs : isSmall n) : Calls Try.prog 30 #[.int .i64 n] w fun e w' => e = .returned (.tuple #[.int .u64 (smallC n), .bool true]) ∧ w' = w := by
  have := rsmall_any n w h.1 h.2
  rwa [if_pos hs, decide_eq_true hs] at this
theorem rsmall_no (n : Int) (w : World) (h : -9223372036854775808 ≤ n ∧ n ≤ 9223372036854775807) (hs : ¬ isSmall n) : Calls Try.prog 30 #[.int .i64 n] w fun e w' => e = .returned (.tuple #[.int .u64 0, .bool false]) ∧ w' = w := by
  have := rsmall_any n w h.1 h.2
  rwa [if_neg hs, decide_eq_false hs] at this
set_option maxHeartbeats 1600000 in
set_option maxRecDepth 100000 in
theorem walk29_any (idn idw bn bw : Nat) (h0 : idn ≠ 0) (hw0 : idw ≠ 0) (hne : idn ≠ idw) : ∀ (t : Tm) (sl : Value) (top : Bool) (kk : Nat) (own : Nat → Nat) (w : World), TmS own w t sl → Blk own idn w bn [.int .i64 kk] 3 → Blk own idw w bw [.func (.func 29) #[] #[.pointer (some ⟨bn, 0, none⟩), .pointer (some ⟨bw, 0, none⟩)]] 37 → kk + cntF t top ≤ 1000000 →
    Calls Try.prog 29 #[valT t sl, .bool top, .pointer (some ⟨bn, 0, none⟩), .pointer (some ⟨bw, 0, none⟩)] w (Does own [idn] w fun own' e w' => e = .returned (.tuple #[]) ∧ Blk own' idn w' bn [.int .i64 (kk + cntF t top : Nat)] 3) := by
  refine Tm.ind ?_
  intro k s n re im args ih sl top kk own w h hn hw hb
  obtain ⟨A, len, cap, rfl, hL⟩ := h.args
  rw [valT_mk]
  have hlen : args.length = len := hL.1
  have hr := h.rng
  have hn64 : -9223372036854775808 ≤ n ∧ n ≤ 9223372036854775807 := hr.2.1
  clear hr h
  unfold cntF at hb ⊢
  obtain ⟨F0, hF0, hFF⟩ := own_ne own w.heap.size
  obtain ⟨x1, kb, y1⟩ := (Ext.refl own [idn] w).box [.int .i64 k, .string s, .int .i64 n, .int .u64 re, .int .u64 im, .slice A len cap] 25 (idn + 1)
  replace hn := hn.keep y1 (by simp)
  replace hw := hw.keep y1 (by simp)
  replace hL : TmL _ _ args A len cap := hL.keep y1 (by simp)
  generalize _root_.Go.Proofs.Ytlmcfclonncgbaa.give own w.heap.size (idn + 1) = o1 at *
  have c0 := kb.cell 0 rfl
  have c1 := kb.cell 1 rfl
  have c2 := kb.cell 2 rfl
  have c3 := kb.cell 3 rfl
  have c4 := kb.cell 4 rfl
  have c5 := kb.cell 5 rfl
  have cn := hn.cell 0 rfl
  have cw := hw.cell 0 rfl
  have fn := hn.free 0
  have HX := Lib.hid x1
  clear x1 y1 hFF
  have hset : ∀ u, Ext o1 o1 [idn] (w.alloc (.cells #[.int .i64 k, .string s, .int .i64 n, .int .u64 re, .int .u64 im, .slice A len cap] 25)) ((w.alloc (.cells #[.int .i64 k, .string s, .int .i64 n, .int .u64 re, .int .u64 im, .slice A len cap] 25)).setCell ⟨bn, 0, none⟩ u) := fun u => (Ext.refl o1 [idn] _).setCell _ _ (fun _ => by show o1 bn ∈ _; rw [hn.2]; simp)
  have HS := Lib.hid hset
  clear hset
  by_cases h3 : k = 3
  · subst h3
    rw [if_pos rfl] at hb ⊢
    by_cases hs : isSmall n
    · rw [if_pos hs] at hb ⊢
      go_enter Try.func29, Try.ntmps29
      go_wp2_with (go_at_call 30; refine (rsmall_yes n _ hn64 hs).mono ?_; rintro e w2 ⟨rfl, rfl⟩)
      go_end0
      exact ⟨_, HX.out, rfl, hn⟩
    · rw [if_neg hs] at hb ⊢
      go_enter Try.func29, Try.ntmps29
      go_wp2_with (go_at_call 30; refine (rsmall_no n _ hn64 hs).mono ?_; rintro e w2 ⟨rfl, rfl⟩)
      go_end0
      exact ⟨_, HX.out.trans (HS.out _), rfl, hn.set 0 _⟩
  · rw [if_neg h3] at hb ⊢
    have h3' : (k == 3) = false := by simpa using h3
    by_cases h4 : k = 4
    · subst h4
      rw [if_pos rfl] at hb ⊢
      go_enter Try.func29, Try.ntmps29
      go_wp2_with fail
      go_end0
      exact ⟨_, HX.out.trans (HS.out _), rfl, hn.set 0 _⟩
    · rw [if_neg h4] at hb ⊢
      have h4' : (k == 4) = false := by simpa using h4
      by_cases h1 : k = 1
      · subst h1
        rw [if_pos rfl] at hb ⊢
        cases top with
        | true =>
          go_enter Try.func29, Try.ntmps29
          go_wp2_with fail
          go_end0
          exact ⟨_, HX.out.trans (HS.out _), rfl, hn.set 0 _⟩
        | false =>
          go_enter Try.func29, Try.ntmps29
          go_wp2_with fail
          go_end0
          exact ⟨_, HX.out, rfl, hn⟩
      · rw [if_neg h1] at hb ⊢
        have h1' : (k == 1) = false := by simpa using h1
        by_cases h5 : k = 5
        · subst h5
          rw [if_pos rfl] at hb ⊢
          rw [hlen] at hb ⊢
          have hmax := hL.2.2.1
          have hle := hL.2.1
          unfold maxLen at hmax
          have x2 := HS.out (.int .i64 ((kk : Int) + (1 + (len : Int))))
          have hn2 := hn.set 0 (.int .i64 ((kk : Int) + (1 + (len : Int))))
          have hw2 := hw.keep x2 (by simpa using Ne.symm hne)
          have hL2 : TmL _ _ args A len cap := hL.keep x2 (by simpa using Ne.symm h0)
          have kb2 := kb.keep x2 (by simp)
          have X2 := HX.out.trans x2
          obtain ⟨W2, hW2⟩ : ∃ W2, (w.alloc (.cells #[.int .i64 5, .string s, .int .i64 n, .int .u64 re, .int .u64 im, .slice A len cap] 25)).setCell ⟨bn, 0, none⟩ (.int .i64 ((kk : Int) + (1 + (len : Int)))) = W2 := ⟨_, rfl⟩
          rw [hW2] at hn2 hw2 hL2 kb2 X2
          have d5 := kb2.cell 5 rfl
          have HB := Lib.hid (And.intro hn2 (And.intro hw2 (And.intro hL2 (And.intro kb2 (And.intro X2 (And.intro hlen hb))))))
          clear hn2 hw2 hL2 kb2 X2 x2 hlen hb hL
          have HIH := Lib.hid ih
          clear ih
          have hwr1 : IntKind.i64.wrap (1 + (len : Int)) = 1 + (len : Int) := by have := HB.out.2.2.2.2.2.2; rw [IntKind.wrap_i64]; omega
          have hwr2 : IntKind.i64.wrap ((kk : Int) + (1 + (len : Int))) = (kk : Int) + (1 + (len : Int)) := by have := HB.out.2.2.2.2.2.2; rw [IntKind.wrap_i64]; omega
          go_enter Try.func29, Try.ntmps29
          go_wp2_with fail
          go_loopw [44] (fun v wr => ∃ (j : Nat) (k2 : Nat) (own' : Nat → Nat), v = .int .i64 j ∧ j ≤ len ∧ Ext o1 own' [idn] W2 wr ∧ Blk own' idn wr bn [.int .i64 k2] 3 ∧ k2 + cntFs (args.drop j) = kk + (1 + len + cntFs args)) (fun v _ => len - (intOf v).toNat)
          case atStart => exact ⟨0, kk + (1 + len), o1, rfl, by omega, Ext.refl _ _ _, by simpa using HB.out.1, by simp; omega⟩
          case round =>
            obtain ⟨j, k2, own', rfl, hj, x, hbn, hinv⟩ := hrel
            by_cases hlt : j < len
            · have hL := HB.out.2.2.1.keep x (by simpa using Ne.symm h0)
              have hbw := HB.out.2.1.keep x (by simpa using Ne.symm hne)
              obtain ⟨b, o, rfl⟩ := hL.addr (by omega)
              obtain ⟨t, sl, ht, hT, e0, e1, e2, e3, e4, e5⟩ := hL.at j hlt
              have hmem := List.mem_of_getElem? ht
              have hdrop : args.drop j = t :: args.drop (j + 1) := by rw [List.drop_eq_getElem_cons (List.getElem?_eq_some_iff.1 ht).1, (List.getElem?_eq_some_iff.1 ht).2]
              rw [hdrop, cntFs_cons] at hinv
              obtain ⟨A', l', cp', rfl, _⟩ := hT.args
              have ew := hbw.cell 0 rfl
              have xa := (Ext.refl own' [idn] wr).alloc (.cells #[.int .i64 t.kind, .string t.name, .int .i64 t.int, .int .u64 t.re, .int .u64 t.im, .slice A' l' cp'] 25)
              have hT2 := TmS.keep xa (by simpa using Ne.symm h0) t _ hT
              have hbn2 := hbn.alloc (.cells #[.int .i64 t.kind, .string t.name, .int .i64 t.int, .int .u64 t.re, .int .u64 t.im, .slice A' l' cp'] 25)
              have hbw2 := hbw.alloc (.cells #[.int .i64 t.kind, .string t.name, .int .i64 t.int, .int .u64 t.re, .int .u64 t.im, .slice A' l' cp'] 25)
              have ew2 := hbw2.cell 0 rfl
              have hcall := HIH.out t hmem _ false k2 own' _ hT2 hbn2 hbw2 (by have := HB.out.2.2.2.2.2.2; omega)
              have HC := Lib.hid (And.intro hcall (And.intro hinv (x.trans xa)))
              clear hcall hinv hT2 hbn2 hbw2 xa hT hmem ht hdrop hL hbn
              go_wp2_with fail
              refine HC.out.1.mono ?_
              rintro e w2 ⟨own2, x2, rfl, hbn3⟩
              go_wp2_with fail
              go_roundw
              case measure => simp [intOf]; omega
              exact ⟨j + 1, _, own2, by go_num, by omega, HC.out.2.2.trans x2, hbn3, by have := HC.out.2.1; omega⟩
            · obtain rfl : j = len := by omega
              have hd : args.drop j = [] := List.drop_eq_nil_of_le (by rw [HB.out.2.2.2.2.2.1]; exact Nat.le_refl _)
              rw [hd] at hinv
              have HI := Lib.hid (And.intro hinv (And.intro x hbn))
              clear hinv hd hbn x
              go_wp2_with fail
              go_end0
              refine ⟨own', HB.out.2.2.2.2.1.trans HI.out.2.1, rfl, ?_⟩
              have e : k2 = kk + (1 + j + cntFs args) := by have := HI.out.1; simpa [cntFs] using this
              rw [← e]; exact HI.out.2.2
        · rw [if_neg h5] at hb ⊢
          have h5' : (k == 5) = false := by simpa using h5
          go_enter Try.func29, Try.ntmps29
          go_wp2_with fail
          go_end0
          exact ⟨_, HX.out, rfl, hn⟩

end Go.Proofs.Ytlmcfclonncgbaa
