/- The walk of the law AtomsOnce: each name has one number, for ever, and each number one name. -/
import Derived.Test.YtaahamgjhlnjnaaAtomsOnce
import Derived.Outline
namespace Go.Proofs.Ytaahamgjhlnjnaa
open Go.RowKit
set_option linter.unusedVariables false

open Go.Maps (Keyed int_keyed)
set_option maxHeartbeats 6400000 in
set_option maxRecDepth 100000 in
theorem atomsOnce_walk (A : Option Addr) (len cap : Nat) (xs : List ByteArray) {w : World} (hc : Came RStr 1 w A len cap xs) (_w : World) :
    Calls Try.prog 13 #[.slice A len cap] w fun e w' => e = .returned (.bool true) ∧ Below w.heap.size w w' := by
  have hmax := hc.max
  have hle := hc.le
  unfold maxLen at hmax
  have hmm := @run_makeMap Try.prog
  have hlen := hc.length
  have HLEN := Lib.hid hlen
  clear hlen
  go_enter Try.func13, Try.ntmps13
  go_wp2_with fail
  refine (anew_any own0 1 2 _ (by decide)).mono ?_
  rintro e w1 ⟨o1, p, x1, rfl, _, _, h1⟩
  have hmp := MapOwn.new o1 3 w1 Try.prog 3 3
  obtain ⟨y1, y2⟩ := hmp
  have h2 := h1.keep y1 (by simp) (by simp)
  have x2 := (x1.trans y1).mono (jds := [1, 2, 3]) (by simp)
  clear h1 x1 y1
  go_wp2_with fail
  generalize w1.alloc (.map #[] 0) = w2 at *
  generalize give o1 w1.heap.size 3 = o2 at *
  generalize w1.heap.size = bm at *
  clear hmm
  go_loopw [21] (fun v wr => ∃ (k : Nat) (own : Nat → Nat) (L : List ByteArray) (D : DataW Unit) (m : Nat), v = .int .i64 k ∧ k ≤ len ∧ Ext own0 own [1, 2, 3] w wr ∧ TabP own 1 2 wr p L ∧ MapOwn own 3 wr Try.prog 3 3 bm m D ∧ m ≤ k ∧ m ≤ 100 ∧ L.length ≤ 2 + k ∧ L.length ≤ 102 ∧ Counts L D k ∧ Seen L D xs k) (fun v _ => len - (intOf v).toNat)
  case atStart => exact ⟨0, o2, names0, _, 0, rfl, by omega, x2, h2, y2, by omega, by omega, by decide, by decide, Counts.start, fun i s hi => by omega⟩
  case round =>
    clear x2 h2 y2
    obtain ⟨k, own, L, D, m, rfl, hk, x, a, b, hm1, hm2, hL, hL2, hC, hS⟩ := hrel
    by_cases hlt : k < len
    · obtain ⟨bb, oo, rfl⟩ := hc.addr (by omega)
      obtain ⟨s, hs, ck, hsm⟩ := hc.str (x.done (by decide)) k hlt
      by_cases h100 : k < 100
      · have h100' : (k : Int) < 100 := by omega
        by_cases hsz : s.size ≤ 200
        · have hsz' : (s.size : Int) ≤ 200 := by omega
          have hnm := a.names
          obtain ⟨q1, q2, q3⟩ := numL_mem L s hsz (by omega)
          have hnl := names_len L s
          have hnu := anumber_any own 1 2 p s L wr a (by decide)
          obtain ⟨c, hc1, hc2, hc3⟩ := hC.get (idxL (numL L s) s)
          have hC2 := hC.put hnm.two s hsz (by omega) hc1 hc2 hc3
          have hS2 := hS.put hC.tidy.isMap hs hsz (by omega) (cntV (c + 1))
          have hget := idxL_get (numL L s) s (by simpa [memB] using q1)
          have hfn : findN (numL L s) s = idxL (numL L s) s := by unfold findN; rw [if_pos q1]
          rw [q2, q3] at hnu
          obtain ⟨M, hM⟩ : ∃ M, numL L s = M := ⟨_, rfl⟩
          rw [hM] at hnu hC2 hS2 hget hfn hc1 q1 hnl
          obtain ⟨j, hj⟩ : ∃ j, idxL M s = j := ⟨_, rfl⟩
          rw [hj] at hC2 hS2 hget hfn hc1
          rw [hj] at hnu
          have hjl : j < 4096 := by have := (List.getElem?_eq_some_iff.1 hget).1; omega
          have HNU := Lib.hid hnu
          have HC1 := Lib.hid hc1
          have HG := Lib.hid hget
          have HF := Lib.hid hfn
          have HQ := Lib.hid q1
          have hss := str_same s
          clear hnu hget hfn hs hM hj q1 q2 q3 hc1 hS hC hnm
          go_wp2_with fail
          refine HNU.out.mono ?_
          rintro e w3 ⟨own3, x3, rfl, a3⟩
          have b3 := b.keep x3 (by simp)
          replace x3 := x.trans (x3.mono (jds := [1, 2, 3]) (by simp))
          clear x a b
          have hfd := fun n own4 w4 (h : TabP own4 1 2 w4 p M) => afind_any own4 1 2 p s M (w4.drewN n) (h.dr n) hsm
          rw [HF.out, HQ.out] at hfd
          have HFD := Lib.hid hfd
          clear hfd
          go_wp2_with (first | (at_lookup; refine wpList_map_look _ rfl _ _ 63 rfl 3 3 .i64 law_int Try.underlying63 Try.underlying3 (zero_int _) b3 rfl _ _ rfl (int_key (by omega) (by omega)) _ HC1.out ?_) | (refine wpList_map_put _ rfl _ _ _ 63 rfl 3 3 law_int Try.underlying63 b3 (by unfold maxLen; omega) rfl _ _ _ rfl rfl (int_key (by omega) (by omega)) _ (int_elem _ (by omega) (by omega)) ?_; intro w4 b4 x4) | (go_at_call 43; refine (aname_in own3 1 2 p j s M _ (a3.keep x4 (by decide) (by decide)) HG.out).mono ?_; rintro e w' ⟨rfl, n1, rfl⟩) | (go_at_call 44; refine (HFD.out _ _ _ (a3.keep x4 (by decide) (by decide))).mono ?_; rintro e w' ⟨rfl, n2, rfl⟩))
          go_roundw
          case rel => exact ⟨k + 1, own3, M, _, m + 1, by go_num, by omega, (x3.trans (x4.mono (by simp))).drewN _, (a3.keep x4 (by decide) (by decide)).dr _, b4.dr _, by omega, by omega, by omega, by omega, hC2, hS2⟩
          case measure => simp [intOf]; omega
        · have hsz' : (200 : Int) < (s.size : Int) := by omega
          have hS2 := hS.skip (Or.inr fun t ht => by rw [hs] at ht; cases ht; omega)
          clear hs
          go_wp2_with fail
          go_roundw
          case rel => exact ⟨k + 1, own, L, D, m, by go_num, by omega, x, a, b, by omega, by omega, by omega, by omega, hC.more, hS2⟩
          case measure => simp [intOf]; omega
      · have h100' : (100 : Int) ≤ k := by omega
        have hS2 := hS.skip (Or.inl (by omega))
        clear hs
        go_wp2_with fail
        go_roundw
        case rel => exact ⟨k + 1, own, L, D, m, by go_num, by omega, x, a, b, by omega, by omega, by omega, by omega, hC.more, hS2⟩
        case measure => simp [intOf]; omega
    · obtain rfl : k = len := by omega
      clear hlt hk
      obtain ⟨W0, hW0⟩ : ∃ W0 : World, W0 = wr := ⟨_, rfl⟩
      rw [← hW0]
      rw [← hW0] at x a b
      clear hW0
      go_wp2_with fail
      go_loopw [74] (fun v wr => ∃ (j n : Nat), v = .int .i64 j ∧ j ≤ k ∧ wr = W0.drewN n) (fun v _ => k - (intOf v).toNat)
      case atStart => exact ⟨0, 0, rfl, by omega, rfl⟩
      case round =>
        obtain ⟨j, n, rfl, hj, rfl⟩ := hrel
        by_cases hjl : j < k
        · obtain ⟨bb, oo, rfl⟩ := hc.addr (by omega)
          obtain ⟨s, hs, ck, hsm⟩ := hc.str ((x.drewN n).done (by decide)) j hjl
          by_cases h100 : j < 100
          · have h100' : (j : Int) < 100 := by omega
            by_cases hsz : s.size ≤ 200
            · have hsz' : (s.size : Int) ≤ 200 := by omega
              obtain ⟨s1, s2⟩ := hS j s hjl h100 hs hsz
              obtain ⟨_, hil, c, g1, g2, g3⟩ := hC.low _ s2
              have hnu := fun n => anumber_met own 1 2 p s L (W0.drewN n) (a.dr n) hsz s1
              have hfn : findN L s = idxL L s := by unfold findN; rw [if_pos s1]
              rw [hfn] at hnu
              obtain ⟨i, hi⟩ : ∃ i, idxL L s = i := ⟨_, rfl⟩
              rw [hi] at hnu g1 hil
              have HNU := Lib.hid hnu
              have HG := Lib.hid g1
              have hcz : ((c : Int) == 0) = false := by simp; omega
              clear hnu hfn hi hs s1 s2 g1
              go_wp2_with (first | (go_at_call 36; refine (HNU.out _).mono ?_; rintro e w' ⟨rfl, n1, rfl⟩) | (at_lookup; refine wpList_map_look_g _ rfl _ _ 63 rfl 3 3 .i64 law_int Try.underlying63 Try.underlying3 (zero_int _) (b.dr _) rfl _ _ rfl (int_key (by omega) (by omega)) _ HG.out ?_))
              go_roundw
              case rel => exact ⟨j + 1, _, by go_num, by omega, rfl⟩
              case measure => simp [intOf]; omega
            · have hsz' : (200 : Int) < (s.size : Int) := by omega
              clear hs
              go_wp2_with fail
              go_roundw
              case rel => exact ⟨j + 1, _, by go_num, by omega, rfl⟩
              case measure => simp [intOf]; omega
          · have h100' : (100 : Int) ≤ j := by omega
            clear hs
            go_wp2_with fail
            go_roundw
            case rel => exact ⟨j + 1, _, by go_num, by omega, rfl⟩
            case measure => simp [intOf]; omega
        · obtain rfl : j = k := by omega
          have hsz := hC.size
          obtain ⟨S, hSz⟩ : ∃ S, Maps.size D = S := ⟨_, rfl⟩
          obtain ⟨N, hN⟩ : ∃ N, L.length = N := ⟨_, rfl⟩
          have hb0 : (Maps.has D (intK 0)).toNat ≤ 1 := Bool.toNat_le _
          have hb1 : (Maps.has D (intK 1)).toNat ≤ 1 := Bool.toNat_le _
          rw [hSz, hN] at hsz
          have hi1 : (S : Int) ≤ N := by omega
          have hi2 : (N : Int) ≤ S + 2 := by omega
          have hi3 : (S : Int) ≤ 200 := by rw [hN] at hL2; omega
          have hln := fun n => alen_any own 1 2 p L (W0.drewN n) (a.dr n)
          rw [hN] at hln
          have HLN := Lib.hid hln
          have HS := Lib.hid hSz
          clear hln hsz hb0 hb1 hN hSz hS hC
          go_wp2_with (first | (go_at_call 37; refine (HLN.out _).mono ?_; rintro e w' ⟨rfl, n1, rfl⟩) | (at_len; refine wpList_map_len_g _ rfl _ 63 rfl 3 3 Try.underlying63 (b.dr _) rfl _ HS.out ?_) | (go_at_call 38; refine (awake2_any _).mono ?_; rintro e w' ⟨rfl, hb⟩))
          go_ret
          exact ⟨rfl, (x.belowStep (below_ofDrew hb)).done (by decide)⟩

end Go.Proofs.Ytaahamgjhlnjnaa
