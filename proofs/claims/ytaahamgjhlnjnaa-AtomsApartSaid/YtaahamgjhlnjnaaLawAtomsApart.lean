/- The walk of the law AtomsApart: two tables number by themselves; the same names in the same order have the same numbers. -/
import Derived.Test.YtaahamgjhlnjnaaAtomsLib
import Derived.Outline
namespace Go.Proofs.Ytaahamgjhlnjnaa
open Go.RowKit
set_option linter.unusedVariables false

set_option maxHeartbeats 6400000 in
set_option maxRecDepth 100000 in
theorem atomsApart_walk (A : Option Addr) (len cap : Nat) (xs : List ByteArray) {w : World} (hc : Came RStr 1 w A len cap xs) (A' : Option Addr) (len' cap' : Nat) (ys : List ByteArray) (hd : Came RStr 1 w A' len' cap' ys) (_w : World) :
    Calls Try.prog 9 #[.slice A len cap, .slice A' len' cap'] w fun e w' => e = .returned (.bool true) ∧ Below w.heap.size w w' := by
  have hmax := hc.max
  have hle := hc.le
  have hmax' := hd.max
  have hle' := hd.le
  unfold maxLen at hmax hmax'
  go_enter Try.func9, Try.ntmps9
  go_wp2_with fail
  refine (anew_any own0 1 2 _ (by decide)).mono ?_
  rintro e w1 ⟨o1, p, x1, rfl, _, _, h1⟩
  go_wp2_with fail
  refine (anew_any o1 3 4 _ (by decide)).mono ?_
  rintro e w2 ⟨o2, q, x2, rfl, _, _, h2⟩
  replace h1 := h1.keep x2 (by simp) (by simp)
  replace x2 := (x1.trans x2).mono (jds := [1, 2, 3, 4]) (by simp)
  clear x1
  go_wp2_with fail
  go_loopw [25] (fun v wr => ∃ (k : Nat) (own : Nat → Nat) (L : List ByteArray), v = .int .i64 k ∧ k ≤ len ∧ Ext own0 own [1, 2, 3, 4] w wr ∧ TabP own 1 2 wr p L ∧ TabP own 3 4 wr q L) (fun v _ => len - (intOf v).toNat)
  case atStart => exact ⟨0, o2, names0, rfl, by omega, x2, h1, h2⟩
  case round =>
    clear x2 h1 h2
    obtain ⟨k, own, L, rfl, hk, x, a, b⟩ := hrel
    by_cases hlt : k < len
    · obtain ⟨bb, oo, rfl⟩ := hc.addr (by omega)
      obtain ⟨s, hs, ck, hsm⟩ := hc.str (x.done (by decide)) k hlt
      clear hs
      by_cases h60 : k < 60
      · have h60' : (k : Int) < 60 := by omega
        by_cases hsz : s.size ≤ 200
        · have hsz' : (s.size : Int) ≤ 200 := by omega
          generalize hn1 : numN L s = n1
          generalize hn2 : numE L s = n2
          generalize hn3 : numL L s = M
          have hnu := anumber_any own 1 2 p s L wr a (by decide)
          have hnv := fun o W (h : TabP o 3 4 W q L) => anumber_any o 3 4 q s L W h (by decide)
          rw [hn1, hn2, hn3] at hnu
          rw [hn1, hn2, hn3] at hnv
          have HNU := Lib.hid hnu
          have HNV := Lib.hid hnv
          clear hnu hnv hn1 hn2 hn3
          go_wp2_with fail
          refine HNU.out.mono ?_
          rintro e w1 ⟨own1, x1, rfl, a1⟩
          have b1 := b.keep x1 (by simp) (by simp)
          go_wp2_with fail
          refine (HNV.out _ _ b1).mono ?_
          rintro e w2 ⟨own2, x2, rfl, b2⟩
          have a2 := a1.keep x2 (by simp) (by simp)
          go_wp2_with fail
          go_roundw
          case rel => exact ⟨k + 1, own2, M, by go_num, by omega, (x.trans (x1.mono (by simp))).trans (x2.mono (by simp)), a2, b2⟩
          case measure => simp [intOf]; omega
        · have hsz' : (200 : Int) < (s.size : Int) := by omega
          go_wp2_with fail
          go_roundw
          case rel => exact ⟨k + 1, own, L, by go_num, by omega, x, a, b⟩
          case measure => simp [intOf]; omega
      · have h60' : (60 : Int) ≤ k := by omega
        go_wp2_with fail
        go_roundw
        case rel => exact ⟨k + 1, own, L, by go_num, by omega, x, a, b⟩
        case measure => simp [intOf]; omega
    · obtain rfl : k = len := by omega
      clear hlt hk hc
      go_wp2_with fail
      refine (alen_any own 3 4 q L _ b).mono ?_
      rintro e w' ⟨rfl, n, rfl⟩
      replace x := x.drewN n
      replace a := a.dr n
      replace b := b.dr n
      generalize wr.drewN n = w0 at *
      go_wp2_with fail
      go_loopw [62] (fun v wr => ∃ (k : Nat) (own : Nat → Nat) (M : List ByteArray), v = .int .i64 k ∧ k ≤ len' ∧ Ext own0 own [1, 2, 3, 4] w wr ∧ TabP own 1 2 wr p (L ++ M) ∧ TabP own 3 4 wr q L) (fun v _ => len' - (intOf v).toNat)
      case atStart => exact ⟨0, own, [], rfl, by omega, x, by rw [List.append_nil]; exact a, b⟩
      case round =>
        clear x a b
        obtain ⟨k, own, M, rfl, hk, x, a, b⟩ := hrel
        by_cases hlt : k < len'
        · obtain ⟨bb, oo, rfl⟩ := hd.addr (by omega)
          obtain ⟨s, hs, ck, hsm⟩ := hd.str (x.done (by decide)) k hlt
          clear hs
          by_cases h60 : k < 60
          · have h60' : (k : Int) < 60 := by omega
            obtain ⟨M2, hM2, _⟩ := numL_pre (L ++ M) s
            rw [List.append_assoc] at hM2
            have hnu := anumber_any own 1 2 p s (L ++ M) wr a (by decide)
            rw [hM2] at hnu
            have HNU := Lib.hid hnu
            clear hM2 hnu
            go_wp2_with fail
            refine HNU.out.mono ?_
            rintro e w1 ⟨own1, x1, rfl, a1⟩
            have b1 := b.keep x1 (by simp) (by simp)
            go_wp2_with fail
            go_roundw
            case rel => exact ⟨k + 1, own1, M ++ M2, by go_num, by omega, x.trans (x1.mono (by simp)), a1, b1⟩
            case measure => simp [intOf]; omega
          · have h60' : (60 : Int) ≤ k := by omega
            go_wp2_with fail
            go_roundw
            case rel => exact ⟨k + 1, own, M, by go_num, by omega, x, a, b⟩
            case measure => simp [intOf]; omega
        · obtain rfl : k = len' := by omega
          clear hlt hk hd
          obtain ⟨N, hN⟩ : ∃ N, L.length = N := ⟨_, rfl⟩
          rw [hN]
          have hN2 := b.names.few
          rw [hN] at hN2
          have HN := Lib.hid hN
          clear hN
          obtain ⟨W0, hW0⟩ : ∃ W0 : World, W0 = wr := ⟨_, rfl⟩
          rw [← hW0]
          rw [← hW0] at x a b
          clear hW0
          go_wp2_with fail
          go_loopw [74] (fun v wr => ∃ (j n : Nat), v = .int .i64 j ∧ j ≤ N ∧ wr = W0.drewN n) (fun v _ => N - (intOf v).toNat)
          case atStart => exact ⟨0, 0, rfl, by omega, rfl⟩
          case round =>
            obtain ⟨j, n, rfl, hj, rfl⟩ := hrel
            by_cases hjl : j < N
            · obtain ⟨s, hs⟩ : ∃ s, L[j]? = some s := ⟨_, List.getElem?_eq_getElem (by rw [HN.out]; exact hjl)⟩
              have hs' : (L ++ M)[j]? = some s := by rw [List.getElem?_append_left (by rw [HN.out]; exact hjl)]; exact hs
              have hna := fun n => aname_in own 1 2 p j s (L ++ M) (W0.drewN n) (a.dr n) hs'
              have hnb := fun n => aname_in own 3 4 q j s L (W0.drewN n) (b.dr n) hs
              have HNA := Lib.hid hna
              have HNB := Lib.hid hnb
              have hss := str_same s
              clear hs hs' hna hnb
              go_wp2_with fail
              refine (HNA.out _).mono ?_
              rintro e w' ⟨rfl, n1, rfl⟩
              go_wp2_with fail
              refine (HNB.out _).mono ?_
              rintro e w' ⟨rfl, n2, rfl⟩
              go_wp2_with fail
              go_roundw
              case rel => exact ⟨j + 1, _, by go_num, by omega, rfl⟩
              case measure => simp [intOf]; omega
            · obtain rfl : j = N := by omega
              have hlb := fun n => alen_any own 3 4 q L (W0.drewN n) (b.dr n)
              have hla := fun n => alen_any own 1 2 p (L ++ M) (W0.drewN n) (a.dr n)
              rw [HN.out] at hlb
              have hLM : (L ++ M).length = j + M.length := by rw [List.length_append, HN.out]
              rw [hLM] at hla
              have HLB := Lib.hid hlb
              have HLA := Lib.hid hla
              clear hlb hla hLM
              generalize M.length = m at *
              go_wp2_with (first | (go_at_call 37; refine (HLB.out _).mono ?_; rintro e w' ⟨rfl, n1, rfl⟩) | (go_at_call 37; refine (HLA.out _).mono ?_; rintro e w' ⟨rfl, n1, rfl⟩) | (go_at_call 38; refine (awake2_any _).mono ?_; rintro e w' ⟨rfl, hb⟩))
              go_ret
              exact ⟨rfl, (x.belowStep (below_ofDrew hb)).done (by decide)⟩

end Go.Proofs.Ytaahamgjhlnjnaa
