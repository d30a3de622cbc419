/- The reference's put: compounds. -/
import Derived.Test.YtlmcfclonncgbaaRPut2
import Derived.Test.YtlmcfclonncgbaaPutLen
namespace Go.Proofs.Ytlmcfclonncgbaa
open Go.RowKit
set_option linter.unusedVariables false
set_option linter.unusedSimpArgs false

theorem rset_at {own : Nat → Nat} {id p gg cap j : Nat} {most c : Int} {l : List Int} {w : World} (hb : Blk own id w p [.slice (some ⟨gg, 0, none⟩) l.length cap, .int .i64 most] 135) (hr : Row own id w 34 1 (.slice (some ⟨gg, 0, none⟩) l.length cap) l.length (words l))
    (h1 : (l.length : Int) ≤ most) (h2 : most ≤ 1048576) : Ext own own [id] w (w.setCell ⟨gg, j, none⟩ (.int .u64 c)) ∧ RH own id (w.setCell ⟨gg, j, none⟩ (.int .u64 c)) p most (l.set j c) := by
  have hne := hr.ne_blk hb (by decide)
  refine ⟨(Ext.refl own [id] w).setCell _ _ (fun _ => by show own gg ∈ [id]; rw [hr.2 gg rfl]; simp), _, (hb.far (p := ⟨gg, j, none⟩) (fun e => hne (by simp [Value.ownBlock]; exact e)) _), ?_, by simpa using h1, h2⟩
  have := hr.set j (Value.int .u64 c)
  rw [words_set] at this
  rw [List.length_set]
  exact this
/-- What is said of put at a term. -/
def RPutS (idh ida idv ph pa q : Nat) (most : Int) (t : Tm) : Prop := ∀ (sl : Value) (own : Nat → Nat) (w : World) (at_ : Int) (st : SS), TmS own w t sl → RH own idh w ph most st.l → RAP own ida w pa st.L → VP own idv w q st.V → at_ ≤ 1048576 → st.V.length + nodes (cl t) ≤ 900000 →
  Calls Try.prog 91 #[.pointer (some ⟨ph, 0, none⟩), .pointer (some ⟨pa, 0, none⟩), valT t sl, .map (some q), .int .i64 at_] w (Does own [idh, ida, idv] w fun own' e w' => RPutEnd own' w' idh ida idv ph pa q most (putT most (cl t) at_ st) e)
set_option maxHeartbeats 8000000 in
set_option maxRecDepth 100000 in
theorem rput_comp (own : Nat → Nat) (idh ida idv : Nat) (hids : IdsP idh ida idv) (w : World) (ph pa q : Nat) (most at_ : Int) (s : ByteArray) (n re im : Int) (A : Option Addr) (len cap : Nat) (st : SS) (hh : RH own idh w ph most st.l) (ha : RAP own ida w pa st.L) (hV : VP own idv w q st.V) (args : List Tm) (hL : TmL own w args A len cap) (hl1 : 1 ≤ args.length) (hl20 : args.length ≤ 20) (hVl : st.V.length + nodesL (cls args) ≤ 900000) (hargs : ∀ a ∈ args, RPutS idh ida idv ph pa q most a) :
    Calls Try.prog 91 #[.pointer (some ⟨ph, 0, none⟩), .pointer (some ⟨pa, 0, none⟩), .agg #[.int .i64 5, .string s, .int .i64 n, .int .u64 re, .int .u64 im, .slice A len cap], .map (some q), .int .i64 at_] w (Does own [idh, ida, idv] w fun own' e w' => RPutEnd own' w' idh ida idv ph pa q most (putT most (.comp s (cls args)) at_ st) e) := by
  obtain ⟨W1, hW1⟩ : ∃ W, w.alloc (.cells #[.int .i64 5, .string s, .int .i64 n, .int .u64 re, .int .u64 im, .slice A len cap] 25) = W := ⟨_, rfl⟩
  obtain ⟨o1, x1, kT, y1⟩ := boxV (Ext.refl own [idh, ida, idv] w) [.int .i64 5, .string s, .int .i64 n, .int .u64 re, .int .u64 im, .slice A len cap] 25 0 W1 hW1
  replace hh := hh.keep y1 (by simp)
  replace ha := ha.keep y1 (by simp)
  replace hV := hV.keep y1 (by simp)
  have hI := hids
  obtain ⟨i1, i2, i3, i4, i5, i6⟩ := hids
  have hll := hh.len
  have c0 := kT.cell 0 rfl; have c1 := kT.cell 1 rfl; have c2 := kT.cell 2 rfl; have c3 := kT.cell 3 rfl; have c4 := kT.cell 4 rfl; have c5 := kT.cell 5 rfl
  have hL1 := hL.keep y1 (by simp)
  have hlen : args.length = len := hL.1
  have i00 : 0 ∉ [idh, ida, idv] := by simp; omega
  have hcl : (cls args).length = len := by rw [cls_map]; simpa using hlen
  rw [hlen] at hl1 hl20
  have hfew := ha.names.few
  have hNf := numN_few s hfew
  have hnu := ranumber_any o1 ida pa s st.L W1 ha
  obtain ⟨r, hr⟩ : ∃ r, putT most (.comp s (cls args)) at_ st = r := ⟨_, rfl⟩
  rw [hr]
  simp only [putT, hcl] at hr
  unfold compT at hr
  have HARG := Lib.hid hargs
  have HVL := Lib.hid hVl
  clear hargs hL hVl
  by_cases hE : numE st.L s = 0
  · have hlt4 := numN_lt hE hfew
    rw [hE] at hnu hr
    simp only [ne_eq, not_true_eq_false, if_false] at hr
    obtain ⟨i0, hi0⟩ : ∃ i : Nat, numN st.L s = i := ⟨(numN st.L s).toNat, by omega⟩
    have hi4 : i0 < 4096 := by omega
    rw [hi0] at hnu hr
    rw [show ((i0 : Int)).toNat = i0 by omega] at hr
    generalize numL st.L s = LL at *
    have hwi : IntKind.u64.wrap (i0 : Int) = i0 := by rw [wrap_u64]; omega
    have HNU := Lib.hid hnu
    obtain ⟨at0, E0, l1, hpv, hpl, hc⟩ : ∃ (at0 : Nat) (E0 : Int) (l1 : List Int), pushV most st.l = .tuple #[.int .i64 at0, .int .i64 E0] ∧ pushL most st.l (funC i0 len) = l1 ∧ (((st.l.length : Int) < most ∧ E0 = 0 ∧ at0 = st.l.length ∧ l1 = st.l ++ [funC i0 len]) ∨ (¬ (st.l.length : Int) < most ∧ E0 = 4 ∧ at0 = 0 ∧ l1 = st.l)) := by
      unfold pushV pushL
      by_cases h : (st.l.length : Int) < most
      · rw [if_pos h, if_pos h]; exact ⟨_, _, _, rfl, rfl, Or.inl ⟨h, rfl, rfl, rfl⟩⟩
      · rw [if_neg h, if_neg h]; exact ⟨0, 4, _, rfl, rfl, Or.inr ⟨h, rfl, rfl, rfl⟩⟩
    have hat0 : at0 ≤ 1048576 := by rcases hc with ⟨_, _, h, _⟩ | ⟨_, _, h, _⟩ <;> omega
    have hwa : IntKind.u64.wrap (at0 : Int) = at0 := by rw [wrap_u64]; omega
    have HPV := Lib.hid (And.intro hpv hpl)
    have hr2 : (E0 = 0 ∧ at0 = st.l.length ∧ ∀ l', pushRs most l1 len = (l', true) → r = ((putArgs most (cls args) (at0 + 1) ⟨l', LL, st.V⟩).1, (at0 : Int) * 8 + 1, (putArgs most (cls args) (at0 + 1) ⟨l', LL, st.V⟩).2)) ∧ ((∀ l', pushRs most l1 len = (l', false) → r.1 = ⟨l', LL, st.V⟩ ∧ r.2.2 = 4) ∧ l1.length = at0 + 1) ∨ (E0 = 4 ∧ r.1 = ⟨l1, LL, st.V⟩ ∧ r.2.2 = 4) := by
      rcases hc with ⟨h, rfl, rfl, rfl⟩ | ⟨h, rfl, rfl, rfl⟩
      · rw [if_pos h] at hr
        refine Or.inl ⟨⟨rfl, rfl, fun l' hl' => ?_⟩, fun l' hl' => ?_, by simp⟩
        · rw [hl'] at hr; simpa using hr.symm
        · rw [hl'] at hr; rw [← hr]; exact ⟨rfl, rfl⟩
      · rw [if_neg h] at hr
        rw [← hr]
        exact Or.inr ⟨rfl, rfl, rfl⟩
    have HRR := Lib.hid hr2
    have HCC := Lib.hid (And.intro hlen (And.intro hi4 hfew))
    clear hr hr2 hc hpv hpl hE hi0 hNf hnu
    go_enter Try.func91, Try.ntmps91
    go_wp2_with (first
      | (go_at_call 45; refine (rpush_any own2 idh ph most (funC i0 len) st.l w2 hh2).mono ?_; rintro e w3 ⟨own3, x3, hpv, g3⟩; rw [HPV.out.1] at hpv; obtain rfl := hpv; have n3 := n2.keep x3 (by simpa using Ne.symm i4); have hV3 := hV2.keep x3 (by simpa using Ne.symm i5); have kT3 := kT2.keep x3 (by simpa using Ne.symm i1); have hL3 := hL2.keep x3 (by simpa using Ne.symm i1); have X3 := (x1.trans (x2.mono (jds := [idh, ida, idv]) (by simp))).trans (x3.mono (jds := [idh, ida, idv]) (by simp)); have e0 := kT3.cell 0 rfl; have e1 := kT3.cell 1 rfl; have e2 := kT3.cell 2 rfl; have e3 := kT3.cell 3 rfl; have e4 := kT3.cell 4 rfl; have e5 := kT3.cell 5 rfl)
      | (go_at_call 125; refine (rfunctor_any i0 len _ (by omega) hl1 hl20).mono ?_; rintro e w9 ⟨rfl, hw9⟩; rw [hw9]; clear hw9)
      | (go_at_call 47; refine HNU.out.mono ?_; rintro e w2 ⟨own2, x2, rfl, n2⟩; have hh2 := hh.keep x2 (by simpa using i4); have hV2 := hV.keep x2 (by simpa using Ne.symm i6); have kT2 := kT.keep x2 (by simpa using Ne.symm i2); have hL2 := hL1.keep x2 (by simpa using Ne.symm i2); have d0 := kT2.cell 0 rfl; have d1 := kT2.cell 1 rfl; have d2 := kT2.cell 2 rfl; have d3 := kT2.cell 3 rfl; have d4 := kT2.cell 4 rfl; have d5 := kT2.cell 5 rfl))
    rw [HPV.out.2] at g3
    clear hh2 hV2 kT2 hL2 hh ha hV kT hL1 n2 x2 x3
    go_loopw [27, 25] (fun u u2 wr => ∃ (j : Nat) (own' : Nat → Nat) (e : Int) (l' : List Int), u = .int .i64 j ∧ u2 = .int .i64 e ∧ j ≤ len ∧ Ext own own' [idh, ida, idv] w wr ∧ Blk own' 0 wr w.heap.size [.int .i64 5, .string s, .int .i64 n, .int .u64 re, .int .u64 im, .slice A len cap] 25 ∧ TmL own' wr args A len cap ∧ RH own' idh wr ph most l' ∧ RAP own' ida wr pa LL ∧ VP own' idv wr q st.V ∧
          ((e = 0 ∧ pushRs most l1 len = pushRs most l' (len - j) ∧ E0 = 0) ∨ (e = 4 ∧ r.1 = ⟨l', LL, st.V⟩ ∧ r.2.2 = 4))) (fun u _ _ => len - (intOf u).toNat)
    case atStart =>
      refine ⟨0, own3, E0, l1, rfl, rfl, Nat.zero_le _, X3, kT3, hL3, g3, n3, hV3, ?_⟩
      rcases HRR.out with ⟨⟨h1, _, _⟩, _⟩ | ⟨h1, h2, h3⟩
      · exact Or.inl ⟨h1, by simp, h1⟩
      · exact Or.inr ⟨h1, h2, h3⟩
    case round =>
      obtain ⟨j, own', e, l', rfl, rfl, hj, X, kC, hLc, g, n9, hV9, hgb⟩ := hrel
      clear X3 kT3 hL3 g3 n3 hV3
      have hgl := g.len
      have q0 := kC.cell 0 rfl; have q1 := kC.cell 1 rfl; have q2 := kC.cell 2 rfl; have q3 := kC.cell 3 rfl; have q4 := kC.cell 4 rfl; have q5 := kC.cell 5 rfl
      rcases hgb with ⟨he, hpr, hE0⟩ | ⟨he, hr1, hr2⟩
      · subst he
        by_cases hlt : j < len
        · have hlt2 : decide (j < len) = true := decide_eq_true hlt
          by_cases hroom : (l'.length : Int) < most
          · have HI := Lib.hid (And.intro X (And.intro hpr hE0))
            clear X hpr hE0
            go_wp2_with (go_at_call 124; refine (rvar_room own' idh ph most l' wr g hroom).mono ?_; rintro e w4 ⟨own4, x4, rfl, g4⟩)
            go_roundw
            case measure => simp [intOf]; omega
            case rel =>
              refine ⟨j + 1, own4, 0, l' ++ [(l'.length : Int) * 8], by go_num, rfl, by omega, HI.out.1.trans (x4.mono (by simp)), kC.keep x4 (by simpa using Ne.symm i1), hLc.keep x4 (by simpa using Ne.symm i1), g4, n9.keep x4 (by simpa using Ne.symm i4), hV9.keep x4 (by simpa using Ne.symm i5), Or.inl ⟨rfl, ?_, HI.out.2.2⟩⟩
              rw [HI.out.2.1, show len - j = (len - (j + 1)) + 1 by omega]
              conv => lhs; unfold pushRs
              rw [if_pos hroom]
          · have hb : pushRs most l1 len = (l', false) := by
              rw [hpr, show len - j = (len - (j + 1)) + 1 by omega]
              unfold pushRs
              rw [if_neg hroom]
            have hrb : r.1 = ⟨l', LL, st.V⟩ ∧ r.2.2 = 4 := by
              rcases HRR.out with ⟨_, h2⟩ | ⟨h1, _, _⟩
              · exact h2.1 l' hb
              · rw [hE0] at h1; exact absurd h1 (by decide)
            have HI := Lib.hid (And.intro X hrb)
            clear X hpr hb hrb hE0
            go_wp2_with (go_at_call 124; refine (rvar_full own' idh ph most l' wr g (by omega)).mono ?_; rintro e w4 ⟨rfl, n4, hw4⟩; rw [hw4]; clear hw4)
            go_roundw
            case measure => simp [intOf]; omega
            case rel => exact ⟨j + 1, own', 4, l', by go_num, rfl, by omega, HI.out.1.drewN _, kC.keep ((Ext.refl own' [] wr).drewN n4) (by simp), hLc.keep ((Ext.refl own' [] wr).drewN n4) (by simp), g.dr _, n9.dr _, hV9.dr _, Or.inr ⟨rfl, HI.out.2.1, HI.out.2.2⟩⟩
        · have hlt2 : decide (j < len) = false := decide_eq_false hlt
          have hp : pushRs most l1 len = (l', true) := by
            rw [hpr, show len - j = 0 by omega]; rfl
          obtain ⟨hat, hrg, hl1'⟩ : at0 = st.l.length ∧ r = ((putArgs most (cls args) (at0 + 1) ⟨l', LL, st.V⟩).1, (at0 : Int) * 8 + 1, (putArgs most (cls args) (at0 + 1) ⟨l', LL, st.V⟩).2) ∧ l1.length = at0 + 1 := by
            rcases HRR.out with ⟨⟨_, h1, h2⟩, _, h3⟩ | ⟨h1, _, _⟩
            · exact ⟨h1, h2 l' hp, h3⟩
            · rw [hE0] at h1; exact absurd h1 (by decide)
          have hll' : at0 + 1 + len ≤ l'.length := by have z := pushRs_true most len l1 l' hp; omega
          have HH := Lib.hid (And.intro X (And.intro hrg (And.intro hat hll')))
          clear X hrg hp hpr hat hE0 hl1' hll'
          go_wp2_with fail
          go_loopw [28, 25] (fun u u2 wr => ∃ (j : Nat) (own' : Nat → Nat) (e : Int) (s' : SS), u = .int .i64 j ∧ u2 = .int .i64 e ∧ j ≤ len ∧ Ext own own' [idh, ida, idv] w wr ∧ Blk own' 0 wr w.heap.size [.int .i64 5, .string s, .int .i64 n, .int .u64 re, .int .u64 im, .slice A len cap] 25 ∧ TmL own' wr args A len cap ∧ RH own' idh wr ph most s'.l ∧ RAP own' ida wr pa s'.L ∧ VP own' idv wr q s'.V ∧
            ((e = 0 ∧ putArgs most (cls args) (at0 + 1) ⟨l', LL, st.V⟩ = putArgs most ((cls args).drop j) (at0 + 1 + j) s' ∧ s'.V.length + nodesL ((cls args).drop j) ≤ 900000 ∧ at0 + 1 + len ≤ s'.l.length) ∨ (e ≠ 0 ∧ r.1 = s' ∧ r.2.2 = e))) (fun u _ _ => len - (intOf u).toNat)
          case atStart => exact ⟨0, own', 0, ⟨l', LL, st.V⟩, rfl, rfl, Nat.zero_le _, HH.out.1, kC, hLc, g, n9, hV9, Or.inl ⟨rfl, by simp, by simpa using HVL.out, HH.out.2.2.2⟩⟩
          case round =>
            obtain ⟨j2, own5, e, s', rfl, rfl, hj2, X5, kD, hLd, g5, n5, hV5, hgb⟩ := hrel
            clear kC hLc g n9 hV9 q0 q1 q2 q3 q4 q5
            have v0 := kD.cell 0 rfl; have v1 := kD.cell 1 rfl; have v2 := kD.cell 2 rfl; have v3 := kD.cell 3 rfl; have v4 := kD.cell 4 rfl; have v5 := kD.cell 5 rfl
            rcases hgb with ⟨he, hpa, hvb, hlb⟩ | ⟨he, hr1, hr2⟩
            · subst he
              by_cases hlt2 : j2 < len
              · have hdc2 : decide (j2 < len) = true := decide_eq_true hlt2
                obtain ⟨b, o, rfl⟩ := hLd.addr (by omega)
                obtain ⟨tt, sl, ht, hTt, e0, e1, e2, e3, e4, e5⟩ := hLd.at j2 hlt2
                have hmem := List.mem_of_getElem? ht
                obtain ⟨A9, l9, cp9, rfl, _⟩ := hTt.args
                have hdrop : (cls args).drop j2 = cl tt :: (cls args).drop (j2 + 1) := by
                  have h' : j2 < (cls args).length := by rw [hcl]; exact hlt2
                  rw [List.drop_eq_getElem_cons h']
                  congr 1
                  have h2 : (cls args)[j2]? = some (cl tt) := by rw [cls_map, List.getElem?_map, ht]; rfl
                  rw [List.getElem?_eq_getElem h'] at h2
                  exact Option.some.inj h2
                rw [hdrop] at hpa hvb
                simp only [nodesL] at hvb
                obtain ⟨R, hR⟩ : ∃ R, putT most (cl tt) ((at0 + 1 + j2 : Nat) : Int) s' = R := ⟨_, rfl⟩
                have hgl5 := g5.len
                have hcall := HARG.out tt hmem (.slice A9 l9 cp9) own5 wr ((at0 + 1 + j2 : Nat) : Int) s' hTt g5 n5 hV5 (by omega) (by omega)
                have hge := putT_ge most (cl tt) ((at0 + 1 + j2 : Nat) : Int) s'
                have hvl := putT_vl most (cl tt) ((at0 + 1 + j2 : Nat) : Int) s'
                simp only [putArgs, hR] at hpa
                rw [hR] at hcall hge hvl
                rw [show valT tt (.slice A9 l9 cp9) = .agg #[.int .i64 tt.kind, .string tt.name, .int .i64 tt.int, .int .u64 tt.re, .int .u64 tt.im, .slice A9 l9 cp9] from rfl, show ((at0 + 1 + j2 : Nat) : Int) = (at0 : Int) + 1 + (j2 : Int) by push_cast; rfl] at hcall
                have HCL := Lib.hid hcall
                have hwb1 : IntKind.i64.wrap ((at0 : Int) + 1) = (at0 : Int) + 1 := by rw [IntKind.wrap_i64]; omega
                have hwb2 : IntKind.i64.wrap ((at0 : Int) + 1 + (j2 : Int)) = (at0 : Int) + 1 + (j2 : Int) := by rw [IntKind.wrap_i64]; omega
                have hb8 : R.1.V.length + nodesL ((cls args).drop (j2 + 1)) ≤ 900000 := by omega
                have hlb8 : at0 + 1 + len ≤ R.1.l.length := by omega
                by_cases hR0 : R.2.2 = 0
                · rw [if_neg (by simpa using hR0)] at hpa
                  have HI := Lib.hid (And.intro X5 (And.intro hpa (And.intro hb8 hlb8)))
                  have HR0 := Lib.hid hR0
                  clear X5 hpa hb8 hvb hge hvl hlb hcall hmem ht hdrop hR hR0
                  obtain ⟨z9, hz9⟩ : ∃ z, (at0 : Int) + 1 + (j2 : Int) = z := ⟨_, rfl⟩
                  have hzn : z9.toNat = at0 + 1 + j2 := by omega
                  have hz0 : 0 ≤ z9 := by omega
                  rw [hz9] at hwb2 HCL
                  have HZ := Lib.hid (And.intro hz9 hzn)
                  have hz8 : (at0 : Int) + 1 + (j2 : Int) = z9 := hz9
                  clear hz9 hzn
                  go_wp2_with (go_at_call 91; refine Calls.mono HCL.out ?_; rintro e w6 ⟨own6, x6, ⟨xx, rfl, hx⟩, g6, n6, V6⟩; obtain rfl := hx HR0.out; rw [HR0.out]; obtain ⟨vh, kh, krr, hm1, hm2⟩ := id g6; obtain ⟨gh, cph, rfl, _⟩ := krr.form_pos (by have := HI.out.2.2.2; omega); have hc0 := kh.cell 0 rfl; have ck := krr.cell z9.toNat (words_get R.1.l z9.toNat (by have := HI.out.2.2.2; have := HZ.out.2; omega)); have fk := krr.free z9.toNat; have hzl : z9 < (R.1.l.length : Int) := (by have := HI.out.2.2.2; have := HZ.out.1; omega))
                  obtain ⟨x7, g7⟩ := rset_at (j := z9.toNat) (c := R.2.1) kh krr hm1 hm2
                  have kD7 := (kD.keep x6 i00).keep x7 (by simpa using Ne.symm i1)
                  have hL7 := (hLd.keep x6 i00).keep x7 (by simpa using Ne.symm i1)
                  have n7 := n6.keep x7 (by simpa using Ne.symm i4)
                  have V7 := V6.keep x7 (by simpa using Ne.symm i5)
                  have X7 := (HI.out.1.trans x6).trans (x7.mono (jds := [idh, ida, idv]) (by simp))
                  have HF := Lib.hid (And.intro kD7 (And.intro hL7 (And.intro n7 (And.intro V7 (And.intro X7 g7)))))
                  clear kD7 hL7 n7 V7 X7 g7 x7 kh krr
                  go_wp2_with fail
                  go_roundw
                  case measure => simp [intOf]; omega
                  case rel =>
                    refine ⟨j2 + 1, own6, 0, { R.1 with l := R.1.l.set z9.toNat R.2.1 }, by go_num, rfl, by omega, HF.out.2.2.2.2.1, HF.out.1, HF.out.2.1, HF.out.2.2.2.2.2, HF.out.2.2.1, HF.out.2.2.2.1, Or.inl ⟨rfl, ?_, HI.out.2.2.1, by simp only [List.length_set]; exact HI.out.2.2.2⟩⟩
                    rw [HI.out.2.1, HZ.out.2, Nat.add_assoc (at0 + 1)]
                · rw [if_pos (by simpa using hR0)] at hpa
                  have hRd : (R.2.2 == 0) = false := by simpa using hR0
                  have hrr : r.1 = R.1 ∧ r.2.2 = R.2.2 := by
                    rw [HH.out.2.1]
                    dsimp only
                    rw [hpa]
                    exact ⟨rfl, rfl⟩
                  have HI := Lib.hid (And.intro X5 (And.intro hrr hR0))
                  clear X5 hpa hb8 hvb hge hvl hlb hcall hmem ht hdrop hR hR0 hrr
                  go_wp2_with (go_at_call 91; refine Calls.mono HCL.out ?_; rintro e w6 ⟨own6, x6, ⟨xx, rfl, hx⟩, g6, n6, V6⟩)
                  go_roundw
                  case measure => simp [intOf]; omega
                  case rel => exact ⟨j2 + 1, own6, R.2.2, R.1, by go_num, rfl, by omega, HI.out.1.trans x6, kD.keep x6 i00, hLd.keep x6 i00, g6, n6, V6, Or.inr ⟨HI.out.2.2, HI.out.2.1.1, HI.out.2.1.2⟩⟩
              · have hdc2 : decide (j2 < len) = false := decide_eq_false hlt2
                rw [List.drop_eq_nil_of_le (by rw [hcl]; omega)] at hpa
                simp only [putArgs] at hpa
                have hrr : r = (s', (at0 : Int) * 8 + 1, 0) := by rw [HH.out.2.1, hpa]
                have HI := Lib.hid (And.intro X5 hrr)
                clear X5 hpa hrr hvb hlb
                go_wp2_with (go_at_call 85; refine (rmake_any 1 (at0 : Int) _ (by decide) (by decide) (by omega) (by omega)).mono ?_; rintro e w9 ⟨rfl, hw9⟩; rw [hw9]; clear hw9)
                go_ret2
                exact ⟨own5, HI.out.1, ⟨_, by rw [HI.out.2] <;> rfl, fun _ => by rw [HI.out.2] <;> rfl⟩, by rw [HI.out.2]; exact g5, by rw [HI.out.2]; exact n5, by rw [HI.out.2]; exact hV5⟩
            · have hne : (e == 0) = false := by simpa using he
              have HI := Lib.hid (And.intro X5 (And.intro he (And.intro hr1 hr2)))
              clear X5 he hr1 hr2
              by_cases hlt2 : j2 < len
              · have hdc2 : decide (j2 < len) = true := decide_eq_true hlt2
                go_wp2_with (go_at_call 85; refine (rmake_any 1 (at0 : Int) _ (by decide) (by decide) (by omega) (by omega)).mono ?_; rintro e w9 ⟨rfl, hw9⟩; rw [hw9]; clear hw9)
                go_ret2
                exact ⟨own5, HI.out.1, ⟨_, by rw [HI.out.2.2.2] <;> rfl, fun h => absurd (HI.out.2.2.2 ▸ h) HI.out.2.1⟩, by rw [HI.out.2.2.1]; exact g5, by rw [HI.out.2.2.1]; exact n5, by rw [HI.out.2.2.1]; exact hV5⟩
              · have hdc2 : decide (j2 < len) = false := decide_eq_false hlt2
                go_wp2_with (go_at_call 85; refine (rmake_any 1 (at0 : Int) _ (by decide) (by decide) (by omega) (by omega)).mono ?_; rintro e w9 ⟨rfl, hw9⟩; rw [hw9]; clear hw9)
                go_ret2
                exact ⟨own5, HI.out.1, ⟨_, by rw [HI.out.2.2.2] <;> rfl, fun h => absurd (HI.out.2.2.2 ▸ h) HI.out.2.1⟩, by rw [HI.out.2.2.1]; exact g5, by rw [HI.out.2.2.1]; exact n5, by rw [HI.out.2.2.1]; exact hV5⟩
      · subst he
        have HI := Lib.hid (And.intro X (And.intro g (And.intro n9 (And.intro hV9 (And.intro hr1 hr2)))))
        clear X g n9 hV9 hr1 hr2
        by_cases hlt : j < len
        · have hlt2 : decide (j < len) = true := decide_eq_true hlt
          go_wp2_with fail
          go_loopw [28, 25] (fun u u2 wr2 => u = .int .i64 0 ∧ u2 = .int .i64 4 ∧ wr2 = wr) (fun _ _ _ => 0)
          case atStart => exact ⟨rfl, rfl, rfl⟩
          case round =>
            obtain ⟨rfl, rfl, hw⟩ := hrel
            rw [hw]
            clear hw
            go_wp2_with (go_at_call 85; refine (rmake_any 1 (at0 : Int) _ (by decide) (by decide) (by omega) (by omega)).mono ?_; rintro e w9 ⟨rfl, hw9⟩; rw [hw9]; clear hw9)
            go_ret2
            exact ⟨own', HI.out.1, ⟨_, by rw [HI.out.2.2.2.2.2]; rfl, fun h => absurd (HI.out.2.2.2.2.2 ▸ h) (by decide)⟩, by rw [HI.out.2.2.2.2.1]; exact HI.out.2.1, by rw [HI.out.2.2.2.2.1]; exact HI.out.2.2.1, by rw [HI.out.2.2.2.2.1]; exact HI.out.2.2.2.1⟩
        · have hlt2 : decide (j < len) = false := decide_eq_false hlt
          go_wp2_with fail
          go_loopw [28, 25] (fun u u2 wr2 => u = .int .i64 0 ∧ u2 = .int .i64 4 ∧ wr2 = wr) (fun _ _ _ => 0)
          case atStart => exact ⟨rfl, rfl, rfl⟩
          case round =>
            obtain ⟨rfl, rfl, hw⟩ := hrel
            rw [hw]
            clear hw
            go_wp2_with (go_at_call 85; refine (rmake_any 1 (at0 : Int) _ (by decide) (by decide) (by omega) (by omega)).mono ?_; rintro e w9 ⟨rfl, hw9⟩; rw [hw9]; clear hw9)
            go_ret2
            exact ⟨own', HI.out.1, ⟨_, by rw [HI.out.2.2.2.2.2]; rfl, fun h => absurd (HI.out.2.2.2.2.2 ▸ h) (by decide)⟩, by rw [HI.out.2.2.2.2.1]; exact HI.out.2.1, by rw [HI.out.2.2.2.2.1]; exact HI.out.2.2.1, by rw [HI.out.2.2.2.2.1]; exact HI.out.2.2.2.1⟩
  · have hEn := hE
    rw [if_pos hE] at hr
    simp only at hr
    rw [if_pos hE] at hr
    subst hr
    rw [numL_err hE] at hnu
    have hE' : (numE st.L s != 0) = true := by simpa using hE
    generalize numE st.L s = E at *
    generalize numN st.L s = N at *
    have HNU := Lib.hid hnu
    have HE := Lib.hid hE
    clear hE hEn hnu
    go_enter Try.func91, Try.ntmps91
    go_wp2_with (first
      | (go_at_call 47; refine HNU.out.mono ?_; rintro e w2 ⟨own2, x2, rfl, n2⟩))
    go_ret2
    exact ⟨own2, x1.trans (x2.mono (by simp)), ⟨_, rfl, fun h => absurd h HE.out⟩, hh.keep x2 (by simpa using i4), n2, hV.keep x2 (by simpa using Ne.symm i6)⟩

end Go.Proofs.Ytlmcfclonncgbaa
