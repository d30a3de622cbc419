/- The reference's Vars (package elenchusref1): the variables of a term, as they are met. -/
import Derived.Test.YtlmcfclonncgbaaLight
import Derived.Test.YtlmcfclonncgbaaMay2
import Derived.Test.YtlmcfclonncgbaaBox
import Derived.Test.YtlmcfclonncgbaaMem2
namespace Go.Proofs.Ytlmcfclonncgbaa
open Go.RowKit
set_option linter.unusedVariables false
set_option linter.unusedSimpArgs false

mutual
/-- The variables behind those that were met. -/
def varsF : Tm → List Int → List Int
  | .mk k s n re im args, L => if k = 1 then (if n ∈ L then L else L ++ [n]) else if k = 5 then varsFs args L else L
def varsFs : List Tm → List Int → List Int
  | [], L => L
  | t :: ts, L => varsFs ts (varsF t L)
end
theorem varsFs_cons (t : Tm) (ts : List Tm) (L : List Int) : varsFs (t :: ts) L = varsFs ts (varsF t L) := rfl
mutual
def nvF : Tm → Nat
  | .mk k s n re im args => if k = 1 then 1 else if k = 5 then nvFs args else 0
def nvFs : List Tm → Nat
  | [] => 0
  | t :: ts => nvF t + nvFs ts
end
theorem nvFs_cons (t : Tm) (ts : List Tm) : nvFs (t :: ts) = nvF t + nvFs ts := rfl
theorem varsF_len : ∀ (t : Tm) (L : List Int), (varsF t L).length ≤ L.length + nvF t := by
  refine Tm.ind ?_
  intro k s n re im args ih L
  unfold varsF nvF
  split
  · split <;> simp
  · split
    · have key : ∀ l : List Tm, (∀ a ∈ l, a ∈ args) → ∀ L : List Int, (varsFs l L).length ≤ L.length + nvFs l := by
        intro l
        induction l with
        | nil => intro _ L; simp [varsFs]
        | cons a l ih2 =>
          intro hl L
          rw [varsFs_cons, nvFs_cons]
          have h1 := ih a (hl a (by simp)) L
          have h2 := ih2 (fun x hx => hl x (by simp [hx])) (varsF a L)
          omega
      exact key args (fun _ h => h) L
    · simp
theorem info_i64 : (Try.prog.info? 2).map (fun i => (i.zero, i.size, i.bytes)) = some (some (.int .i64 0), 1, 8) := by kernel_rfl
abbrev IRow (own : Nat → Nat) (id : Nat) (w : World) (v : Value) (L : List Int) : Prop := Row own id w 2 1 v L.length (L.map (Value.int .i64))
set_option maxHeartbeats 1600000 in
set_option maxRecDepth 100000 in
theorem vars_any (id : Nat) (hid : id ≠ 0) : ∀ (t : Tm) (sl v : Value) (L : List Int) (own : Nat → Nat) (w : World), TmS own w t sl → IRow own id w v L → L.length + nvF t ≤ 1000000 →
    Calls Try.prog 89 #[valT t sl, v] w (Does own [id] w fun own' e w' => ∃ v', e = .returned v' ∧ IRow own' id w' v' (varsF t L)) := by
  refine Tm.ind ?_
  intro k s n re im args ih sl v L own w h hr hb
  obtain ⟨A, len, cap, rfl, hL⟩ := h.args
  rw [valT_mk]
  have hlen : args.length = len := hL.1
  clear h
  unfold nvF at hb
  unfold varsF
  obtain ⟨x1, kb, y1⟩ := (Ext.refl own [id] w).box [.int .i64 k, .string s, .int .i64 n, .int .u64 re, .int .u64 im, .slice A len cap] 25 (id + 1)
  replace hr := hr.keep y1 (by simp)
  replace hL : TmL _ _ args A len cap := hL.keep y1 (by simp)
  generalize _root_.Go.Proofs.Ytlmcfclonncgbaa.give own w.heap.size (id + 1) = o1 at *
  have c0 := kb.cell 0 rfl
  have c1 := kb.cell 1 rfl
  have c2 := kb.cell 2 rfl
  have c5 := kb.cell 5 rfl
  have HX := Lib.hid x1
  have HR := Lib.hid hr
  have HB := Lib.hid hb
  clear x1 y1 hb
  obtain ⟨W1, hW1⟩ : ∃ W1, w.alloc (.cells #[.int .i64 k, .string s, .int .i64 n, .int .u64 re, .int .u64 im, .slice A len cap] 25) = W1 := ⟨_, rfl⟩
  by_cases h1 : k = 1
  · subst h1
    rw [if_pos rfl] at HB ⊢
    clear ih
    obtain ⟨R, hRR⟩ : ∃ R, (if n ∈ L then L else L ++ [n]) = R := ⟨_, rfl⟩
    rw [hRR]
    have HRR := Lib.hid hRR
    clear hRR
    obtain ⟨A0, cp0, rfl, hcp0⟩ := hr.form
    rw [hW1] at c0 c1 c2 c5 HX HR hr
    have hlen0 := HB.out
    have hL6 : (L.length : Int) ≤ 9223372036854775806 := by omega
    go_enter Try.func89, Try.ntmps89
    go_wp2_with fail
    go_loopw [14] (fun v wr => ∃ (j : Nat), v = .int .i64 j ∧ j ≤ L.length ∧ wr = W1 ∧ ∀ i, i < j → L[i]? ≠ some n) (fun v _ => L.length - (intOf v).toNat)
    case atStart => exact ⟨0, rfl, Nat.zero_le _, rfl, fun i hi => absurd hi (Nat.not_lt_zero i)⟩
    case round =>
      obtain ⟨j, rfl, hj, rfl, hno⟩ := hrel
      by_cases hlt : j < L.length
      · obtain ⟨g, cp, hv, _⟩ := hr.form_pos (by omega)
        simp only [Value.slice.injEq] at hv
        obtain ⟨rfl, _, rfl⟩ := hv
        have hx := hr.cell j (u := .int .i64 L[j]) (by simp [hlt])
        have hgj : L[j]? = some L[j] := List.getElem?_eq_getElem hlt
        obtain ⟨y, hy⟩ : ∃ y, L[j] = y := ⟨_, rfl⟩
        rw [hy] at hx hgj
        clear hy
        have HNO := Lib.hid hno
        clear hno
        by_cases he : y = n
        · subst he
          have hmem : y ∈ L := List.mem_of_getElem? hgj
          have heR : L = R := by rw [← HRR.out, if_pos hmem]
          have HM := Lib.hid heR
          clear heR
          clear hmem hgj
          go_wp2_with fail
          go_ret
          exact ⟨o1, HX.out, _, rfl, by rw [← HM.out]; exact HR.out⟩
        · have he' : (y == n) = false := by simpa using he
          have HE := Lib.hid (And.intro he hgj)
          clear he hgj
          go_wp2_with fail
          go_roundw
          case measure => simp [intOf]; omega
          refine ⟨j + 1, by go_num, by omega, by first | trivial | rfl, fun i hi => ?_⟩
          by_cases hij : i < j
          · exact HNO.out i hij
          · obtain rfl : i = j := by omega
            rw [HE.out.2]
            simpa using HE.out.1
      · obtain rfl : j = L.length := by omega
        have hnm : n ∉ L := fun hm => by
          obtain ⟨i, hi, hin⟩ := List.getElem_of_mem hm
          exact hno i hi (by rw [List.getElem?_eq_getElem hi, hin])
        have heR : L ++ [n] = R := by rw [← HRR.out, if_neg hnm]
        have HN := Lib.hid heR
        clear heR hnm hno
        have hl8 : (L.length + 1) * 8 ≤ 140737488355328 := by omega
        have HAPP := Lib.hid (fun (ops : Array Oper) (rest : List Oper) (o : Oper) (a : Act) (Q : Exit → Act → World → Prop) (hgd : o.guard = none) (ho : o.op = .call { callee := .builtin .append, args := #[.tmp 24, .tmp 27], argTypes := #[42, 42] }) (hs : a.eval (.tmp 24) = _) (hx : a.eval (.tmp 27) = _) => wpList_append_row (P := Try.prog) (ops := ops) (rest := rest) (o := o) (a := a) (Q := Q) hgd (.tmp 24) (.tmp 27) 42 ho 2 (.int .i64 0) 1 8 Try.underlying42 info_i64 rfl (by decide) (by decide) hs hx (ys := [.int .i64 n]) rfl (one_cell' _ rfl) HR.out hl8)
        go_wp2_with (at_builtin; refine HAPP.out _ _ _ _ _ rfl rfl rfl rfl ?_)
        intro g cap' w1 own1 hr1 x1 hk1 hz
        go_wp2_with fail
        go_ret
        refine ⟨own1, HX.out.trans x1, _, rfl, ?_⟩
        rw [← HN.out]
        simpa [IRow] using hr1
  · rw [if_neg h1] at HB ⊢
    have h1' : (k == 1) = false := by simpa using h1
    by_cases h5 : k = 5
    · subst h5
      rw [if_pos rfl] at HB ⊢
      have hmax := hL.2.2.1
      have hle := hL.2.1
      unfold maxLen at hmax
      have HL := Lib.hid (And.intro hL hlen)
      have HIH := Lib.hid ih
      clear ih hL hlen hr
      rw [hW1] at c0 c1 c2 c5 HX HR HL
      have HW := Lib.hid hW1
      go_enter Try.func89, Try.ntmps89
      go_wp2_with fail
      go_loopw [35, 1] (fun u v2 wr => ∃ (j : Nat) (L2 : List Int) (own' : Nat → Nat), u = .int .i64 j ∧ j ≤ len ∧ Ext o1 own' [id] W1 wr ∧ IRow own' id wr v2 L2 ∧ varsFs (args.drop j) L2 = varsFs args L ∧ L2.length + nvFs (args.drop j) ≤ 1000000) (fun u _ _ => len - (intOf u).toNat)
      case atStart => exact ⟨0, L, o1, rfl, by omega, Ext.refl _ _ _, HR.out, rfl, HB.out⟩
      case round =>
        obtain ⟨j, L2, own', rfl, hj, x, hr2, hinv, hbd⟩ := hrel
        by_cases hlt : j < len
        · have hL := HL.out.1.keep x (by simpa using Ne.symm hid)
          obtain ⟨b, o, rfl⟩ := hL.addr (by omega)
          obtain ⟨t, sl, ht, hT, e0, e1, e2, e3, e4, e5⟩ := hL.at j hlt
          have hmem := List.mem_of_getElem? ht
          have hdrop : args.drop j = t :: args.drop (j + 1) := by rw [List.drop_eq_getElem_cons (List.getElem?_eq_some_iff.1 ht).1, (List.getElem?_eq_some_iff.1 ht).2]
          rw [hdrop, varsFs_cons] at hinv
          rw [hdrop, nvFs_cons] at hbd
          obtain ⟨A', l', cp', rfl, _⟩ := hT.args
          have xa := (Ext.refl own' [id] wr).alloc (.cells #[.int .i64 t.kind, .string t.name, .int .i64 t.int, .int .u64 t.re, .int .u64 t.im, .slice A' l' cp'] 25)
          have hT2 := TmS.keep xa (by simpa using Ne.symm hid) t _ hT
          have hr3 := hr2.keep (ids := []) ((Ext.refl own' [] wr).alloc (.cells #[.int .i64 t.kind, .string t.name, .int .i64 t.int, .int .u64 t.re, .int .u64 t.im, .slice A' l' cp'] 25)) (by simp)
          have hcall := HIH.out t hmem _ _ L2 own' _ hT2 hr3 (by omega)
          have hvl := varsF_len t L2
          have HC := Lib.hid (And.intro hcall (And.intro hinv (And.intro (x.trans xa) (And.intro hbd hvl))))
          clear hcall hinv hT2 hr3 hr2 xa hT hmem ht hdrop hL hbd hvl
          go_wp2_with fail
          refine HC.out.1.mono ?_
          rintro e w2 ⟨own2, x2, v3, rfl, hr4⟩
          go_wp2_with fail
          go_roundw
          case measure => simp [intOf]; omega
          exact ⟨j + 1, _, own2, by go_num, by omega, HC.out.2.2.1.trans x2, hr4, HC.out.2.1, by have := HC.out.2.2.2; omega⟩
        · obtain rfl : j = len := by omega
          have hd : args.drop j = [] := List.drop_eq_nil_of_le (by rw [HL.out.2]; exact Nat.le_refl _)
          rw [hd] at hinv
          have HI := Lib.hid (And.intro hinv (And.intro x hr2))
          clear hinv hd hr2 x hbd
          go_wp2_with fail
          go_ret
          refine ⟨own', HX.out.trans HI.out.2.1, _, rfl, ?_⟩
          have e : L2 = varsFs args L := HI.out.1
          rw [← e]; exact HI.out.2.2
    · rw [if_neg h5] at HB ⊢
      have h5' : (k == 5) = false := by simpa using h5
      clear hW1
      go_enter Try.func89, Try.ntmps89
      go_wp2_with fail
      go_ret
      exact ⟨o1, HX.out, _, rfl, HR.out⟩
/-- Vars whole: of a term that may be; else nil. -/
theorem rvars_any (id : Nat) (hid : id ≠ 0) (t : Tm) (sl : Value) (own : Nat → Nat) (w : World) (h : TmS own w t sl) (hb : nvF t ≤ 1000000) (hm : mayE t = 0) :
    Calls Try.prog 32 #[valT t sl] w (Does own [id] w fun own' e w' => ∃ v', e = .returned v' ∧ IRow own' id w' v' (varsF t [])) := by
  obtain ⟨A, len, cap, rfl, hL⟩ := h.args
  have e : valT t (.slice A len cap) = .agg #[.int .i64 t.kind, .string t.name, .int .i64 t.int, .int .u64 t.re, .int .u64 t.im, .slice A len cap] := rfl
  have hm' : (mayE t == 0) = true := by simpa using hm
  obtain ⟨x1, kb, y1⟩ := (Ext.refl own [id] w).box [.int .i64 t.kind, .string t.name, .int .i64 t.int, .int .u64 t.re, .int .u64 t.im, .slice A len cap] 25 (id + 1)
  replace h := TmS.keep y1 (by simp) t _ h
  rw [e]
  generalize _root_.Go.Proofs.Ytlmcfclonncgbaa.give own w.heap.size (id + 1) = o1 at *
  have c0 := kb.cell 0 rfl
  have c1 := kb.cell 1 rfl
  have c2 := kb.cell 2 rfl
  have c3 := kb.cell 3 rfl
  have c4 := kb.cell 4 rfl
  have c5 := kb.cell 5 rfl
  have HX := Lib.hid x1
  have HM := Lib.hid hm
  clear x1 y1 hL hm
  go_enter Try.func32, Try.ntmps32
  go_wp2_with (first
    | (go_at_call 24; have hc := rmay_any t _ o1 _ h; rw [e] at hc; refine hc.mono ?_; rintro e w4 ⟨own4, x4, rfl⟩; have k4 := kb.keep x4 (by simp); have hT4 := TmS.keep x4 (by simp) t _ h; have d0 := k4.cell 0 rfl; have d1 := k4.cell 1 rfl; have d2 := k4.cell 2 rfl; have d3 := k4.cell 3 rfl; have d4 := k4.cell 4 rfl; have d5 := k4.cell 5 rfl)
    | (go_at_call 89; have hc := vars_any id hid t _ (.slice none 0 0) [] own4 _ hT4 (Row.nil _ _ _ _ _) (by simpa using hb); rw [e] at hc; refine hc.mono ?_; rintro e w5 ⟨own5, x5, v5, rfl, hr5⟩))
  go_ret
  exact ⟨own5, HX.out.trans ((x4.mono (by simp)).trans x5), v5, rfl, hr5⟩

end Go.Proofs.Ytlmcfclonncgbaa
