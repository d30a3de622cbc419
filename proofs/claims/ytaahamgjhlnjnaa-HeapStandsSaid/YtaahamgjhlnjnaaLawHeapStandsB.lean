/- The walk of the law HeapStands, of more than a hundred cells. -/
import Derived.Test.YtaahamgjhlnjnaaAwake5
import Derived.Test.YtaahamgjhlnjnaaCame
import Derived.Test.YtaahamgjhlnjnaaChain
namespace Go.Proofs.Ytaahamgjhlnjnaa
open Go.RowKit
set_option linter.unusedVariables false

set_option maxHeartbeats 6400000 in
set_option maxRecDepth 100000 in
theorem heapStands_big (A : Option Addr) (len cap : Nat) (xs : List Int) {w : World} (hc : Came RWord 1 w A len cap xs) (cut_ : Int) (wa : (Lit.int .i64 cut_).wf = true) (chain_ : Int) (wb : (Lit.int .i64 chain_).wf = true) (_w : World) (hcase : 100 < len) :
    Calls Try.prog 20 #[.slice A len cap, .int .i64 cut_, .int .i64 chain_] w fun e w' => e = .returned (.bool true) ∧ Below w.heap.size w w' := by
  have hmax := hc.max
  have hle := hc.le
  unfold maxLen at hmax
  have hlen := hc.length
  have HL := Lib.hid hlen
  clear hlen wa wb
  go_enter Try.func20, Try.ntmps20
  go_wp2_with fail
  refine (new_any own0 1 500 _).mono ?_
  rintro e w1 ⟨own1, x1, rfl, hp, h1⟩
  replace x1 := x1.mono (jds := [1]) (by simp)
  replace h1 : HP own1 1 w1 _ 500 [] := h1
  generalize w.heap.size = p at *
  go_wp2_with fail
  go_loopw [26] (fun v wr => ∃ (k : Nat) (own : Nat → Nat), v = .int .i64 k ∧ k ≤ len ∧ k ≤ 100 ∧ Ext own0 own [1] w wr ∧ HP own 1 wr p 500 (xs.take k)) (fun v _ => len - (intOf v).toNat)
  case atStart => exact ⟨0, own1, rfl, by omega, by omega, x1, h1⟩
  case round =>
    obtain ⟨k, own, rfl, hk, hk1, x, h⟩ := hrel
    clear x1 h1
    by_cases hlt : k < 100
    · have h100 : (k : Int) < 100 := by omega
      have hltl : k < len := by omega
      have hadr := hc.addr (by omega)
      obtain ⟨b, o, rfl⟩ := hadr
      have ck := hc.word (x.done (by decide)) k (by omega)
      have hpu := push_room own 1 p 500 (xs.getD k 0) (xs.take k) wr h (by rw [List.length_take]; omega)
      have htk : (xs.take k).length = k := by rw [List.length_take, HL.out]; omega
      rw [htk] at hpu
      have HPU := Lib.hid hpu
      clear hpu htk
      go_wp2_with (go_at_call 52; refine HPU.out.mono ?_; rintro e w' ⟨own2, x2, rfl, h2⟩)
      go_roundw
      case rel => exact ⟨k + 1, own2, by go_num, by omega, by omega, x.trans x2, by rw [take_succ_getD _ _ (by rw [HL.out]; omega)]; exact h2⟩
      case measure => simp [intOf]; omega
    · have hk100 : 100 ≤ k := by omega
      have hkl : k < len := by omega
      have q1 : ((k : Int) == 100) = true := by rw [beq_iff_eq]; omega
      have q2 : ((k : Int) != 100) = false := by rw [bne_eq_false_iff_eq]; omega
      have q3 : ((100 : Int) ≤ (k : Int)) := by omega
      have q4 : (100 : Int) < (len : Int) := by omega
      clear hlt hk
      have hadr := hc.addr (by omega)
      obtain ⟨b, o, rfl⟩ := hadr
      have ck := hc.word (x.done (by decide)) k (by omega)
      have htl : (xs.take k).length = k := by rw [List.length_take, HL.out]; omega
      have hrg : ∀ y ∈ xs.take k, 0 ≤ y := fun y hy => (hc.word_range y (List.mem_of_mem_take hy)).1
      have hgx : ∀ j, j < k → (xs.take k).getD j 0 = xs.getD j 0 := fun j hj => by simp only [List.getD, List.getElem?_take]; rw [if_pos hj]
      have hv := var_room own 1 p 500 (xs.take k) wr h (by rw [htl]; omega)
      rw [htl] at hv
      have HTL := Lib.hid htl
      have HRG := Lib.hid hrg
      have HGX := Lib.hid hgx
      clear htl hrg hgx
      go_wp2_with fail
      refine hv.mono ?_
      rintro e w2 ⟨own2, x2, rfl, h2⟩
      have x3 := x.trans x2
      replace h2 : HP own2 1 w2 p 500 (xs.take k ++ [(k : Int) * 8] ++ chainL k 0) := by simpa [chainL] using h2
      clear hv h x2 x
      obtain ⟨q, hq, hq50⟩ : ∃ q : Nat, (IntKind.u64.wrap chain_).tmod 50 = q ∧ q < 50 := by
        have h0 : 0 ≤ IntKind.u64.wrap chain_ := by rw [wrap_u64]; omega
        rw [tmod_pos _ _ h0]
        exact ⟨(IntKind.u64.wrap chain_ % 50).toNat, by omega, by omega⟩
      go_wp2_with fail
      (try rw [hq])
      have HQ := Lib.hid hq
      clear hq
      go_loopw [66, 15] (fun v la w3 => ∃ (j : Nat) (own3 : Nat → Nat), v = .int .u64 j ∧ la = .int .i64 ((k + j : Nat) : Int) ∧ j ≤ q ∧ Ext own0 own3 [1] w w3 ∧ HP own3 1 w3 p 500 (xs.take k ++ [(k : Int) * 8] ++ chainL k j)) (fun v _ _ => q - (intOf v).toNat)
      case atStart => exact ⟨0, own2, rfl, rfl, by omega, x3, h2⟩
      case round =>
        rename World => w3
        obtain ⟨j, own3, rfl, rfl, hj, x, h⟩ := hrel
        clear h2 x3
        have hlj : (xs.take k ++ [(k : Int) * 8] ++ chainL k j).length = k + 1 + j := by simp only [List.length_append, chainL_length, HTL.out, List.length_cons, List.length_nil]
        by_cases hlt : j < q
        · have hp1 := push_room own3 1 p 500 (((k + j : Nat) : Int) * 8) _ w3 h (by rw [hlj]; omega)
          rw [chain_snoc, hlj] at hp1
          have hj64 : IntKind.u64.wrap ((j : Int) + 1) = (j : Int) + 1 := wraps_u64' _ (by omega) (by omega)
          have HLJ := Lib.hid hlj
          clear hlj
          go_wp2_with fail
          refine (ref5_any ((k + j : Nat) : Int) _ (by omega) (by omega)).mono ?_
          rintro e w' ⟨rfl, rfl⟩
          go_wp2_with (go_at_call 52; refine hp1.mono ?_; rintro e w' ⟨own4, x4, rfl, h4⟩)
          go_roundw
          case rel => exact ⟨j + 1, own4, by go_num, by go_num, by omega, x.trans x4, h4⟩
          case measure => simp [intOf]; omega
        · obtain rfl : j = q := by omega
          have hde := chain_end (xs.take k) k j ((k : Int) * 8) HTL.out (Or.inl rfl)
          have hse := chain_set (xs.take k) k j ((k : Int) * 8) 58 HTL.out
          have hde2 := chain_end (xs.take k) k j 58 HTL.out (Or.inr (by decide))
          have hn1 := chain_nonneg (xs.take k) k j ((k : Int) * 8) HRG.out (by omega)
          have hn2 := chain_nonneg (xs.take k) k j 58 HRG.out (by decide)
          have hd1 := deref_any own3 1 p 500 (((k + j : Nat) : Int) * 8) _ w3 h (by omega) hn1
          rw [hde] at hd1
          have hs1 := fun a => set_in own3 1 p 500 (k : Int) 58 _ (w3.drewN a) (h.dr a) (by omega) (by rw [hlj]; omega)
          rw [show (k : Int).toNat = k from rfl, hse] at hs1
          have HD1 := Lib.hid hd1
          have HS1 := Lib.hid hs1
          have HDE2 := Lib.hid hde2
          have HN2 := Lib.hid hn2
          have HLJ := Lib.hid hlj
          clear hde hse hde2 hn1 hn2 hd1 hs1 hlj hlt hj
          go_wp2_with fail
          refine (ref5_any ((k + j : Nat) : Int) _ (by omega) (by omega)).mono ?_
          rintro e w' ⟨rfl, rfl⟩
          go_wp2_with fail
          refine HD1.out.mono ?_
          rintro e w' ⟨rfl, n1, rfl⟩
          go_wp2_with fail
          refine (ref5_any (k : Int) _ (by omega) (by omega)).mono ?_
          rintro e w' ⟨rfl, rfl⟩
          go_wp2_with fail
          refine (rmake_any 2 7 _ (by decide) (by decide) (by decide) (by decide)).mono ?_
          rintro e w' ⟨rfl, rfl⟩
          go_wp2_with fail
          refine (HS1.out n1).mono ?_
          rintro e w4 ⟨own4, x4, rfl, h4⟩
          have x5 := x.trans x4.ofDrew
          clear HS1 HD1 x4 x h
          have hd2 := deref_any own4 1 p 500 (((k + j : Nat) : Int) * 8) _ w4 h4 (by omega) HN2.out
          rw [HDE2.out] at hd2
          have HD2 := Lib.hid hd2
          clear hd2
          go_wp2_with fail
          refine (ref5_any ((k + j : Nat) : Int) _ (by omega) (by omega)).mono ?_
          rintro e w4 ⟨rfl, rfl⟩
          go_wp2_with fail
          refine HD2.out.mono ?_
          rintro e w' ⟨rfl, n2, rfl⟩
          have hlm : (xs.take k ++ [58] ++ chainL k j).length = k + 1 + j := by simp only [List.length_append, chainL_length, HTL.out, List.length_cons, List.length_nil]
          obtain ⟨m, hm, hmk⟩ := mod_nat cut_ (101) (by omega) (by omega)
          have hmn : m ≤ k := by omega
          have hc1 := cut_in own4 1 p 500 (m : Int) _ (w4.drewN n2) (h4.dr n2) (by omega) (by rw [hlm]; omega)
          rw [Int.toNat_natCast] at hc1
          have hlm2 : ((xs.take k ++ [58] ++ chainL k j).take m).length = m := by rw [List.length_take, hlm]; omega
          have HC1 := Lib.hid hc1
          have HLM := Lib.hid hlm2
          clear hc1 hlm hlm2
          go_wp2_with (go_at_call 29; refine (rmake_any 2 7 _ (by decide) (by decide) (by decide) (by decide)).mono ?_; rintro e w' ⟨rfl, rfl⟩)
          (try rw [hm])
          have HM := Lib.hid hm
          clear hm
          refine HC1.out.mono ?_
          rintro e w6 ⟨own6, x6, rfl, h6⟩
          have x7 := x5.trans x6.ofDrew
          have hgj := fun (i a : Nat) (hi : i < m) => get_in own6 1 p 500 (i : Int) _ (w6.drewN a) (h6.dr a) (by omega) (by rw [HLM.out]; omega)
          have hgo := fun (a : Nat) => get_out own6 1 p 500 (m : Int) _ (w6.drewN a) (h6.dr a) (by rw [HLM.out]; omega)
          have hlm := len_any own6 1 p 500 _ w6 h6
          rw [HLM.out] at hlm
          have hb3 := fun a => (x7.drewN a).done (by decide)
          have HB3 := Lib.hid hb3
          have HGJ := Lib.hid hgj
          have HGO := Lib.hid hgo
          have HLN := Lib.hid hlm
          clear hb3 hgj hgo hlm h6 x6 x5 HC1 HD2 h4
          go_wp2_with fail
          refine HLN.out.mono ?_
          rintro e w' ⟨rfl, n3, rfl⟩
          go_wp2_with fail
          go_loopw [118] (fun v w8 => ∃ (i a : Nat), v = .int .i64 i ∧ i ≤ m ∧ w8 = w6.drewN a) (fun v _ => m - (intOf v).toNat)
          case atStart => exact ⟨0, _, rfl, by omega, rfl⟩
          case round =>
            obtain ⟨i, a, rfl, hi, rfl⟩ := hrel
            by_cases hlt : i < m
            · have hg := HGJ.out i a hlt
              rw [Int.toNat_natCast, chain_take (xs.take k) k j m i 58 HTL.out hmn hlt, HGX.out i (by omega)] at hg
              have HG := Lib.hid hg
              have ckd : ∀ a', (w6.drewN a').cell? ⟨b, o + i, none⟩ = some (.int .u64 (xs.getD i 0)) := fun a' => hc.word (HB3.out a') i (by omega)
              clear hg
              go_wp2_with (go_at_call 55; refine HG.out.mono ?_; rintro e w' ⟨rfl, nn, rfl⟩)
              go_roundw
              case rel => exact ⟨i + 1, _, by go_num, by omega, rfl⟩
              case measure => simp [intOf]; omega
            · obtain rfl : i = m := by omega
              go_wp2_with (first | (go_at_call 55; refine (HGO.out _).mono ?_; rintro e w' ⟨rfl, nn, rfl⟩) | (go_at_call 51; refine (awake5_any _).mono ?_; rintro e w' ⟨rfl, hb⟩))
              go_ret
              exact ⟨rfl, (x7.belowStep (below_ofDrew hb)).done (by decide)⟩

end Go.Proofs.Ytaahamgjhlnjnaa
