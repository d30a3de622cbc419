/- The law StoreSmall: the closure that counts the cells that a term needs. -/
import Derived.Test.YtlmcfclonncgbaaRLight
import Derived.Test.YtlmcfclonncgbaaCells2
import Derived.Test.YtlmcfclonncgbaaRep
import Derived.Test.YtlmcfclonncgbaaMay2
import Derived.Test.YtlmcfclonncgbaaBox
namespace Go.Proofs.Ytlmcfclonncgbaa
open Go.RowKit
set_option linter.unusedVariables false
set_option linter.unusedSimpArgs false

mutual
/-- How many cells a term needs. -/
def cntF : Tm → Bool → Nat
  | .mk k s n re im args, top => if k = 3 then (if isSmall n then 0 else 1) else if k = 4 then 2 else if k = 1 then (if top then 1 else 0) else if k = 5 then 1 + args.length + cntFs args else 0
def cntFs : List Tm → Nat
  | [] => 0
  | t :: ts => cntF t false + cntFs ts
end
theorem cntFs_cons (t : Tm) (ts : List Tm) : cntFs (t :: ts) = cntF t false + cntFs ts := rfl
theorem rsmall_yes (n : Int) (w : World) (h : -9223372036854775808 ≤ n ∧ n ≤ 9223372036854775807) (hs : isSmall n) : Calls Try.prog 30 #[.int .i64 n] w fun e w' => e = .returned (.tuple #[.int .u64 (smallC n), .bool true]) ∧ w' = w := by
  have := rsmall_any n w h.1 h.2
  rwa [if_pos hs, decide_eq_true hs] at this
theorem rsmall_no (n : Int) (w : World) (h : -9223372036854775808 ≤ n ∧ n ≤ 9223372036854775807) (hs : ¬ isSmall n) : Calls Try.prog 30 #[.int .i64 n] w fun e w' => e = .returned (.tuple #[.int .u64 0, .bool false]) ∧ w' = w := by
  have := rsmall_any n w h.1 h.2
  rwa [if_neg hs, decide_eq_false hs] at this
set_option maxHeartbeats 1600000 in
set_option maxRecDepth 100000 in
theorem walk29_any (idn idw bn bw : Nat) (h0 : idn ≠ 0) (hw0 : idw ≠ 0) (hne : idn ≠ idw) : ∀ (t : Tm) (sl : Value) (top : Bool) (kk : Nat) (own : Nat → Nat) (w : World), TmS own w t sl → Blk own idn w bn [.int .i64 kk] 3 → Blk own idw w bw [.func (.func 29) #[] #[.pointer (some ⟨bn, 0, none⟩), .pointer (some ⟨bw, 0, none⟩)]] 37 → kk + cntF t top ≤ 1000000 →
    Calls Try.prog 29 #[valT t sl, .bool top, .pointer (some ⟨bn, 0, none⟩), .pointer (some ⟨bw, 0, none⟩)] w (Does own [idn] w fun own' e w' => e = .returned (.tuple #[]) ∧ Blk own' idn w' bn [.int .i64 (kk + cntF t top : Nat)] 3) := by
  refine Tm.ind ?_
  intro k s n re im args ih sl top kk own w h hn hw hb
  obtain ⟨A, len, cap, rfl, hL⟩ := h.args
  rw [valT_mk]
  have hlen : args.length = len := hL.1
  have hr := h.rng
  have hn64 : -9223372036854775808 ≤ n ∧ n ≤ 9223372036854775807 := hr.2.1
  clear hr h
  unfold cntF at hb ⊢
  obtain ⟨F0, hF0, hFF⟩ := own_ne own w.heap.size
  obtain ⟨x1, kb, y1⟩ := (Ext.refl own [idn] w).box [.int .i64 k, .string s, .int .i64 n, .int .u64 re, .int .u64 im, .slice A len cap] 25 (idn + 1)
  replace hn := hn.keep y1 (by simp)
  replace hw := hw.keep y1 (by simp)
  replace hL : TmL _ _ args A len cap := hL.keep y1 (by simp)
  generalize _root_.Go.Proofs.Ytlmcfclonncgbaa.give own w.heap.size (idn + 1) = o1 at *
  have c0 := kb.cell 0 rfl
  have c1 := kb.cell 1 rfl
  have c2 := kb.cell 2 rfl
  have c3 := kb.cell 3 rfl
  have c4 := kb.cell 4 rfl
  have c5 := kb.cell 5 rfl
  have cn := hn.cell 0 rfl
  have cw := hw.cell 0 rfl
  have fn := hn.free 0
  have HX := Lib.hid x1
  clear x1 y1 hFF
  have hset : ∀ u, Ext o1 o1 [idn] (w.alloc (.cells #[.int .i64 k, .string s, .int .i64 n, .int .u64 re, .int .u64 im, .slice A len cap] 25)) ((w.alloc (.cells #[.int .i64 k, .string s, .int .i64 n, .int .u64 re, .int .u64 im, .slice A len cap] 25)).setCell ⟨bn, 0, none⟩ u) := fun u => (Ext.refl o1 [idn] _).setCell _ _ (fun _ => by show o1 bn ∈ _; rw [hn.2]; simp)
  have HS := Lib.hid hset
  clear hset
  by_cases h3 : k = 3
  · subst h3
    rw [if_pos rfl] at hb ⊢
    by_cases hs : isSmall n
    · rw [if_pos hs] at hb ⊢
      go_enter Try.func29, Try.ntmps29
      go_wp2_with (go_at_call 30; refine (rsmall_yes n _ hn64 hs).mono ?_; rintro e w2 ⟨rfl, rfl⟩)
      go_end0
      exact ⟨_, HX.out, rfl, hn⟩
    · rw [if_neg hs] at hb ⊢
      go_enter Try.func29, Try.ntmps29
      go_wp2_with (go_at_call 30; refine (rsmall_no n _ hn64 hs).mono ?_; rintro e w2 ⟨rfl, rfl⟩)
      go_end0
      exact ⟨_, HX.out.trans (HS.out _), rfl, hn.set 0 _⟩
  · rw [if_neg h3] at hb ⊢
    have h3' : (k == 3) = false := by simpa using h3
    by_cases h4 : k = 4
    · subst h4
      rw [if_pos rfl] at hb ⊢
      go_enter Try.func29, Try.ntmps29
      go_wp2_with fail
      go_end0
      exact ⟨_, HX.out.trans (HS.out _), rfl, hn.set 0 _⟩
    · rw [if_neg h4] at hb ⊢
      have h4' : (k == 4) = false := by simpa using h4
      by_cases h1 : k = 1
      · subst h1
        rw [if_pos rfl] at hb ⊢
        cases top with
        | true =>
          go_enter Try.func29, Try.ntmps29
          go_wp2_with fail
          go_end0
          exact ⟨_, HX.out.trans (HS.out _), rfl, hn.set 0 _⟩
        | false =>
          go_enter Try.func29, Try.ntmps29
          go_wp2_with fail
          go_end0
          exact ⟨_, HX.out, rfl, hn⟩
      · rw [if_neg h1] at hb ⊢
        have h1' : (k == 1) = false := by simpa using h1
        by_cases h5 : k = 5
        · subst h5
          rw [if_pos rfl] at hb ⊢
          rw [hlen] at hb ⊢
          have hmax := hL.2.2.1
          have hle := hL.2.1
          unfold maxLen at hmax
          have x2 := HS.out (.int .i64 ((kk : Int) + (1 + (len : Int))))
          have hn2 := hn.set 0 (.int .i64 ((kk : Int) + (1 + (len : Int))))
          have hw2 := hw.keep x2 (by simpa using Ne.symm hne)
          have hL2 : TmL _ _ args A len cap := hL.keep x2 (by simpa using Ne.symm h0)
          have kb2 := kb.keep x2 (by simp)
          have X2 := HX.out.trans x2
          obtain ⟨W2, hW2⟩ : ∃ W2, (w.alloc (.cells #[.int .i64 5, .string s, .int .i64 n, .int .u64 re, .int .u64 im, .slice A len cap] 25)).setCell ⟨bn, 0, none⟩ (.int .i64 ((kk : Int) + (1 + (len : Int)))) = W2 := ⟨_, rfl⟩
          rw [hW2] at hn2 hw2 hL2 kb2 X2
          have d5 := kb2.cell 5 rfl
          have HB := Lib.hid (And.intro hn2 (And.intro hw2 (And.intro hL2 (And.intro kb2 (And.intro X2 (And.intro hlen hb))))))
          clear hn2 hw2 hL2 kb2 X2 x2 hlen hb hL
          have HIH := Lib.hid ih
          clear ih
          have hwr1 : IntKind.i64.wrap (1 + (len : Int)) = 1 + (len : Int) := by have := HB.out.2.2.2.2.2.2; rw [IntKind.wrap_i64]; omega
          have hwr2 : IntKind.i64.wrap ((kk : Int) + (1 + (len : Int))) = (kk : Int) + (1 + (len : Int)) := by have := HB.out.2.2.2.2.2.2; rw [IntKind.wrap_i64]; omega
          go_enter Try.func29, Try.ntmps29
          go_wp2_with fail
          go_loopw [44] (fun v wr => ∃ (j : Nat) (k2 : Nat) (own' : Nat → Nat), v = .int .i64 j ∧ j ≤ len ∧ Ext o1 own' [idn] W2 wr ∧ Blk own' idn wr bn [.int .i64 k2] 3 ∧ k2 + cntFs (args.drop j) = kk + (1 + len + cntFs args)) (fun v _ => len - (intOf v).toNat)
          case atStart => exact ⟨0, kk + (1 + len), o1, rfl, by omega, Ext.refl _ _ _, by simpa using HB.out.1, by simp; omega⟩
          case round =>
            obtain ⟨j, k2, own', rfl, hj, x, hbn, hinv⟩ := hrel
            by_cases hlt : j < len
            · have hL := HB.out.2.2.1.keep x (by simpa using Ne.symm h0)
              have hbw := HB.out.2.1.keep x (by simpa using Ne.symm hne)
              obtain ⟨b, o, rfl⟩ := hL.addr (by omega)
              obtain ⟨t, sl, ht, hT, e0, e1, e2, e3, e4, e5⟩ := hL.at j hlt
              have hmem := List.mem_of_getElem? ht
              have hdrop : args.drop j = t :: args.drop (j + 1) := by rw [List.drop_eq_getElem_cons (List.getElem?_eq_some_iff.1 ht).1, (List.getElem?_eq_some_iff.1 ht).2]
              rw [hdrop, cntFs_cons] at hinv
              obtain ⟨A', l', cp', rfl, _⟩ := hT.args
              have ew := hbw.cell 0 rfl
              have xa := (Ext.refl own' [idn] wr).alloc (.cells #[.int .i64 t.kind, .string t.name, .int .i64 t.int, .int .u64 t.re, .int .u64 t.im, .slice A' l' cp'] 25)
              have hT2 := TmS.keep xa (by simpa using Ne.symm h0) t _ hT
              have hbn2 := hbn.alloc (.cells #[.int .i64 t.kind, .string t.name, .int .i64 t.int, .int .u64 t.re, .int .u64 t.im, .slice A' l' cp'] 25)
              have hbw2 := hbw.alloc (.cells #[.int .i64 t.kind, .string t.name, .int .i64 t.int, .int .u64 t.re, .int .u64 t.im, .slice A' l' cp'] 25)
              have ew2 := hbw2.cell 0 rfl
              have hcall := HIH.out t hmem _ false k2 own' _ hT2 hbn2 hbw2 (by have := HB.out.2.2.2.2.2.2; omega)
              have HC := Lib.hid (And.intro hcall (And.intro hinv (x.trans xa)))
              clear hcall hinv hT2 hbn2 hbw2 xa hT hmem ht hdrop hL hbn
              go_wp2_with fail
              refine HC.out.1.mono ?_
              rintro e w2 ⟨own2, x2, rfl, hbn3⟩
              go_wp2_with fail
              go_roundw
              case measure => simp [intOf]; omega
              exact ⟨j + 1, _, own2, by go_num, by omega, HC.out.2.2.trans x2, hbn3, by have := HC.out.2.1; omega⟩
            · obtain rfl : j = len := by omega
              have hd : args.drop j = [] := List.drop_eq_nil_of_le (by rw [HB.out.2.2.2.2.2.1]; exact Nat.le_refl _)
              rw [hd] at hinv
              have HI := Lib.hid (And.intro hinv (And.intro x hbn))
              clear hinv hd hbn x
              go_wp2_with fail
              go_end0
              refine ⟨own', HB.out.2.2.2.2.1.trans HI.out.2.1, rfl, ?_⟩
              have e : k2 = kk + (1 + j + cntFs args) := by have := HI.out.1; simpa [cntFs] using this
              rw [← e]; exact HI.out.2.2
        · rw [if_neg h5] at hb ⊢
          have h5' : (k == 5) = false := by simpa using h5
          go_enter Try.func29, Try.ntmps29
          go_wp2_with fail
          go_end0
          exact ⟨_, HX.out, rfl, hn⟩

end Go.Proofs.Ytlmcfclonncgbaa
