/- The walk of the law AtomsPlay: any names, asked for and found: each number, each name. -/
import Derived.Test.YtaahamgjhlnjnaaAtomsLib
import Derived.Test.YtaahamgjhlnjnaaRAtoms
import Derived.Outline
namespace Go.Proofs.Ytaahamgjhlnjnaa
open Go.RowKit
set_option linter.unusedVariables false

set_option maxHeartbeats 6400000 in
set_option maxRecDepth 100000 in
theorem atomsPlay_walk (A : Option Addr) (len cap : Nat) (xs : List ByteArray) {w : World} (hc : Came RStr 1 w A len cap xs) (f : ByteArray) (hf : f.size ≤ 140737488351232) (n : Int) (wn : (Lit.int .i64 n).wf = true) (_w : World) :
    Calls Try.prog 11 #[.slice A len cap, .string f, .int .i64 n] w fun e w' => e = .returned (.bool true) ∧ Below w.heap.size w w' := by
  clear wn
  have hmax := hc.max
  have hle := hc.le
  unfold maxLen at hmax
  have hfm : f.size ≤ maxLen := by unfold maxLen; omega
  go_enter Try.func11, Try.ntmps11
  go_wp2_with fail
  refine (anew_any own0 1 2 _ (by decide)).mono ?_
  rintro e w1 ⟨o1, p, x1, rfl, _, _, h1⟩
  go_wp2_with fail
  refine (ranew_any o1 3 _).mono ?_
  rintro e w2 ⟨o2, q, x2, rfl, _, _, h2⟩
  replace h1 := h1.keep x2 (by simp) (by simp)
  replace x2 := (x1.trans x2).mono (jds := [1, 2, 3]) (by simp)
  clear x1
  go_wp2_with fail
  go_loopw [31] (fun v wr => ∃ (k : Nat) (own : Nat → Nat) (L : List ByteArray), v = .int .i64 k ∧ k ≤ len ∧ Ext own0 own [1, 2, 3] w wr ∧ TabP own 1 2 wr p L ∧ RAP own 3 wr q L) (fun v _ => len - (intOf v).toNat)
  case atStart => exact ⟨0, o2, names0, rfl, by omega, x2, h1, h2⟩
  case round =>
    clear x2 h1 h2
    obtain ⟨k, own, L, rfl, hk, x, a, b⟩ := hrel
    by_cases hlt : k < len ∧ k < 100
    · obtain ⟨hlt, h100⟩ := hlt
      have h100' : (k : Int) < 100 := by omega
      obtain ⟨bb, oo, rfl⟩ := hc.addr (by omega)
      obtain ⟨s, hs, ck, hsm⟩ := hc.str (x.done (by decide)) k hlt
      clear hs
      generalize hn1 : numN L s = n1
      generalize hn2 : numE L s = n2
      generalize hn3 : numL L s = M
      have hnu := anumber_any own 1 2 p s L wr a (by decide)
      have hnv := fun o W (h : RAP o 3 W q L) => ranumber_any o 3 q s L W h
      rw [hn1, hn2, hn3] at hnu
      rw [hn1, hn2, hn3] at hnv
      have HNU := Lib.hid hnu
      have HNV := Lib.hid hnv
      clear hnu hnv hn1 hn2 hn3
      go_wp2_with fail
      refine HNU.out.mono ?_
      rintro e w1 ⟨own1, x1, rfl, a1⟩
      have b1 := b.keep x1 (by simp)
      go_wp2_with fail
      refine (HNV.out _ _ b1).mono ?_
      rintro e w2 ⟨own2, x2, rfl, b2⟩
      have a2 := a1.keep x2 (by simp) (by simp)
      replace x2 := (x.trans (x1.mono (by simp))).trans (x2.mono (by simp))
      clear x1 a1 b1 x a b
      have hla := fun n => alen_any own2 1 2 p M (w2.drewN n) (a2.dr n)
      have HLA := Lib.hid hla
      obtain ⟨v, hbb, hrr, _⟩ := id b2
      have c0 := hbb.cell 0 rfl
      obtain ⟨A3, c3, rfl, hc3⟩ := hrr.form
      clear hla hrr hbb
      go_wp2_with fail
      go_quiet ((go_at_call 37; exact quietA (HLA.out _) (fun n => by first | exact ⟨n, rfl⟩ | exact ⟨_, World.drewN_drewN _ _ _⟩ | exact ⟨_, (World.drewN_drewN _ _ _).trans (congrArg (World.drewN _) (Nat.add_assoc _ _ _))⟩)))
      go_wp2_with fail
      go_roundw
      case rel => exact ⟨k + 1, own2, M, by go_num, by omega, x2.drewN _, a2, b2⟩
      case measure => simp [intOf]; omega
    · obtain ⟨W0, hW0⟩ : ∃ W0 : World, W0 = wr := ⟨_, rfl⟩
      obtain ⟨v, hbb, hrr, _⟩ := id b
      have c0 := hbb.cell 0 rfl
      obtain ⟨A3, c3, rfl, hc3⟩ := hrr.form
      obtain ⟨N, hN⟩ : ∃ N, L.length = N := ⟨_, rfl⟩
      rw [hN] at c0 hrr hc3
      have hN2 := b.names.few
      rw [hN] at hN2
      have HN := Lib.hid hN
      have hfa := afind_any own 1 2 p f L wr a hfm
      have hfb := fun n => rafind_any own 3 q f L (wr.drewN n) (b.dr n)
      generalize findN L f = g1 at *
      generalize memB L f = g2 at *
      have HFA := Lib.hid hfa
      have HFB := Lib.hid hfb
      have hna := fun j s n hs => aname_in own 1 2 p j s L (wr.drewN n) (a.dr n) hs
      have HNA := Lib.hid hna
      have hrr2 := Lib.hid hrr
      clear hN hbb hfa hfb hna hrr
      have hor : ¬ k < len ∨ (k < len ∧ (100 : Int) ≤ k ∧ ∃ bb oo s, A = some ⟨bb, oo, none⟩ ∧ wr.cell? ⟨bb, oo + k, none⟩ = some (.string s)) := by
        by_cases hl2 : k < len
        · obtain ⟨bb, oo, rfl⟩ := hc.addr (by omega)
          obtain ⟨s, hs, ck, hsm⟩ := hc.str (x.done (by decide)) k hl2
          exact Or.inr ⟨hl2, by omega, bb, oo, s, rfl, ck⟩
        · exact Or.inl hl2
      clear hlt hc hle hmax
      rcases hor with hl2 | ⟨hl2, h100', bb, oo, s, rfl, ck⟩
      all_goals
        go_wp2_with fail
        refine HFA.out.mono ?_
        rintro e w' ⟨rfl, n1, rfl⟩
        go_wp2_with fail
        refine (HFB.out _).mono ?_
        rintro e w' ⟨rfl, n2, rfl⟩
        go_wp2_with fail
        go_loopw [94] (fun v wq => ∃ (j n : Nat), v = .int .i64 j ∧ j ≤ N ∧ wq = wr.drewN n) (fun v _ => N - (intOf v).toNat)
        case atStart => exact ⟨0, _, rfl, by omega, rfl⟩
        case round =>
          obtain ⟨j, n3, rfl, hj, rfl⟩ := hrel
          by_cases hjl : j < N
          · obtain ⟨s, hs⟩ : ∃ s, L[j]? = some s := ⟨_, List.getElem?_eq_getElem (by rw [HN.out]; exact hjl)⟩
            have hrr := hrr2.out
            obtain ⟨g, c4, hv, _⟩ := hrr.form_pos (by omega)
            cases hv
            have cj := hrr.cell j (strs_get hs)
            have hna := fun n => HNA.out j s n hs
            have HNB := Lib.hid hna
            have hss := str_same s
            clear hs hna hrr
            go_wp2_with fail
            refine (HNB.out _).mono ?_
            rintro e w' ⟨rfl, n4, rfl⟩
            go_wp2_with fail
            go_roundw
            case rel => exact ⟨j + 1, _, by go_num, by omega, rfl⟩
            case measure => simp [intOf]; omega
          · obtain rfl : j = N := by omega
            have hjq : 0 ≤ (j : Int) := by omega
            by_cases hin : 0 ≤ n ∧ n < j
            · obtain ⟨m, rfl⟩ := Int.eq_ofNat_of_zero_le hin.1
              obtain ⟨s, hs⟩ : ∃ s, L[m]? = some s := ⟨_, List.getElem?_eq_getElem (by rw [HN.out]; omega)⟩
              have hna := fun n => HNA.out m s n hs
              have HNB := Lib.hid hna
              have hi1 : (m : Int) < j := hin.2
              have hi0 : (0 : Int) ≤ m := hin.1
              clear hs hna hin
              go_wp2_with (first | (go_at_call 43; refine (HNB.out _).mono ?_; rintro e w' ⟨rfl, n4, rfl⟩) | (go_at_call 38; refine (awake2_any _).mono ?_; rintro e w' ⟨rfl, hb⟩))
              go_ret
              exact ⟨rfl, (x.belowStep (below_ofDrew hb)).done (by decide)⟩
            · have hno := fun k => aname_out own 1 2 p n L (wr.drewN k) (a.dr k) (by rw [HN.out]; omega)
              have HNO := Lib.hid hno
              clear hno
              by_cases hn0 : n < 0
              · clear hin
                go_wp2_with (first | (go_at_call 43; refine (HNO.out _).mono ?_; rintro e w' ⟨rfl, n4, rfl⟩) | (go_at_call 38; refine (awake2_any _).mono ?_; rintro e w' ⟨rfl, hb⟩))
                go_ret
                exact ⟨rfl, (x.belowStep (below_ofDrew hb)).done (by decide)⟩
              · have hn1 : 0 ≤ n := by omega
                have hn2 : (j : Int) ≤ n := by omega
                clear hin
                go_wp2_with (first | (go_at_call 43; refine (HNO.out _).mono ?_; rintro e w' ⟨rfl, n4, rfl⟩) | (go_at_call 38; refine (awake2_any _).mono ?_; rintro e w' ⟨rfl, hb⟩))
                go_ret
                exact ⟨by show Ending.returned (.bool (!decide (n < (j : Int)))) = _; rw [decide_eq_false (by omega)]; rfl, (x.belowStep (below_ofDrew hb)).done (by decide)⟩

end Go.Proofs.Ytaahamgjhlnjnaa
