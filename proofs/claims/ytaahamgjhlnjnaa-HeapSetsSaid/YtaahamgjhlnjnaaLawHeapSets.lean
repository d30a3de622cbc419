/- The walk of the law HeapSets: what is set is got, and other cells stay as they were. -/
import Derived.Test.YtaahamgjhlnjnaaAwake5
import Derived.Test.YtaahamgjhlnjnaaCame
namespace Go.Proofs.Ytaahamgjhlnjnaa
open Go.RowKit
set_option linter.unusedVariables false

theorem set_getD (l : List Int) (m k : Nat) (c : Int) (h : k < l.length) : (l.set m c).getD k 0 = if k = m then c else l.getD k 0 := by
  simp only [List.getD, List.getElem?_set]
  by_cases e : k = m
  · subst e; simp [h]
  · rw [if_neg (Ne.symm e), if_neg e]

set_option maxHeartbeats 3200000 in
set_option maxRecDepth 100000 in
theorem heapSets_walk (A : Option Addr) (len cap : Nat) (xs : List Int) {w : World} (hc : Came RWord 1 w A len cap xs) (at_ : Int) (wa : (Lit.int .i64 at_).wf = true) (c : Int) (wc : (Lit.int .u64 c).wf = true) (_w : World) :
    Calls Try.prog 15 #[.slice A len cap, .int .i64 at_, .int .u64 c] w fun e w' => e = .returned (.bool true) ∧ Below w.heap.size w w' := by
  have bc := wf_u64 wc
  clear wa wc
  have hmax := hc.max
  have hle := hc.le
  unfold maxLen at hmax
  by_cases h60 : (60 : Int) < len
  · go_enter Try.func15, Try.ntmps15
    go_wp2_with (go_at_call 51; refine (awake5_any _).mono ?_; rintro e w' ⟨rfl, hb⟩)
    go_ret
    exact ⟨rfl, hb⟩
  by_cases hl0 : len = 0
  · subst hl0
    go_enter Try.func15, Try.ntmps15
    go_wp2_with (go_at_call 51; refine (awake5_any _).mono ?_; rintro e w' ⟨rfl, hb⟩)
    go_ret
    exact ⟨rfl, hb⟩
  have hl00 : ((len : Int) == 0) = false := by rw [beq_eq_false_iff_ne]; omega
  obtain ⟨b, o, rfl⟩ := hc.addr (by omega)
  have hlen := hc.length
  have HL := Lib.hid hlen
  clear hlen
  go_enter Try.func15, Try.ntmps15
  go_wp2_with fail
  refine (new_any own0 1 60 _).mono ?_
  rintro e w1 ⟨own1, x1, rfl, hp, h1⟩
  replace x1 := x1.mono (jds := [1]) (by simp)
  replace h1 : HP own1 1 w1 _ 60 [] := h1
  generalize w.heap.size = p at *
  go_wp2_with fail
  go_loopw [26] (fun v wr => ∃ (k : Nat) (own : Nat → Nat), v = .int .i64 k ∧ k ≤ len ∧ Ext own0 own [1] w wr ∧ HP own 1 wr p 60 (xs.take k)) (fun v _ => len - (intOf v).toNat)
  case atStart => exact ⟨0, own1, rfl, by omega, x1, h1⟩
  case round =>
    obtain ⟨k, own, rfl, hk, x, h⟩ := hrel
    by_cases hlt : k < len
    · have ck := hc.word (x.done (by decide)) k hlt
      have hpu := push_room own 1 p 60 (xs.getD k 0) (xs.take k) wr h (by rw [List.length_take]; omega)
      go_wp2_with (go_at_call 52; refine hpu.mono ?_; rintro e w' ⟨own2, x2, rfl, h2⟩)
      go_roundw
      case rel => exact ⟨k + 1, own2, by go_num, by omega, x.trans x2, by rw [take_succ_getD _ _ (by rw [HL.out]; exact hlt)]; exact h2⟩
      case measure => simp [intOf]; omega
    · obtain rfl : k = len := by omega
      have hxs : xs.take k = xs := List.take_of_length_le (by rw [HL.out]; exact Nat.le_refl _)
      rw [hxs] at h
      clear hxs hlt hk
      obtain ⟨m, hm, hmk⟩ := mod_nat at_ k (by omega) (by omega)
      have s1 := set_in own 1 p 60 m c xs wr h (by omega) (by rw [HL.out]; omega)
      rw [Int.toNat_natCast] at s1
      go_wp2_with fail
      rw [hm]
      have HM := Lib.hid hm
      clear hm
      refine s1.mono ?_
      rintro e w2 ⟨own2, x2, rfl, h2⟩
      have x3 := x.trans x2
      clear s1 h x2 x
      have hl2 : (xs.set m c).length = k := by rw [List.length_set]; exact HL.out
      have s2 := set_out own2 1 p 60 k c (xs.set m c) w2 h2 (by rw [hl2]; omega)
      have s3 := fun n => set_out own2 1 p 60 (-1) c (xs.set m c) (w2.drewN n) (h2.dr n) (by omega)
      have hg := fun (j : Nat) (n : Nat) (hj : j < k) => get_in own2 1 p 60 j (xs.set m c) (w2.drewN n) (h2.dr n) (by omega) (by rw [hl2]; omega)
      have hd := fun n => deref_any own2 1 p 60 42 (xs.set m c) (w2.drewN n) (h2.dr n) (by decide) (fun y hy => by
        rcases List.mem_or_eq_of_mem_set hy with hy | rfl
        · exact (hc.word_range y hy).1
        · exact bc.1)
      have hd42 : deref (xs.set m c) 42 = 42 := by unfold deref; exact derefF_stop _ _ _ (by omega)
      rw [hd42] at hd
      clear hd42
      have HL2 := Lib.hid hl2
      have S3 := Lib.hid s3
      have HG := Lib.hid hg
      have HD := Lib.hid hd
      clear hl2 s3 hg hd
      go_wp2_with fail
      refine s2.mono ?_
      rintro e w' ⟨rfl, n1, rfl⟩
      go_wp2_with fail
      refine (S3.out _).mono ?_
      rintro e w' ⟨rfl, n2, rfl⟩
      clear s2 S3
      go_wp2_with fail
      have hb3 := fun n => (x3.drewN n).done (by decide)
      have HB3 := Lib.hid hb3
      clear hb3
      go_loopw [60] (fun v w3 => ∃ (j n : Nat), v = .int .i64 j ∧ j ≤ k ∧ w3 = w2.drewN n) (fun v _ => k - (intOf v).toNat)
      case atStart => exact ⟨0, _, rfl, by omega, rfl⟩
      case round =>
        obtain ⟨j, n, rfl, hj, rfl⟩ := hrel
        by_cases hlt : j < k
        · have ck := hc.word (HB3.out n) j hlt
          have hg := HG.out j n hlt
          rw [Int.toNat_natCast, set_getD xs m j c (by rw [HL.out]; exact hlt)] at hg
          by_cases hjm : j = m
          · subst hjm
            rw [if_pos rfl] at hg
            have HGJ := Lib.hid hg
            clear hg
            go_wp2_with (go_at_call 55; refine HGJ.out.mono ?_; rintro e w' ⟨rfl, n, rfl⟩)
            go_roundw
            case rel => exact ⟨j + 1, _, by go_num, by omega, rfl⟩
            case measure => simp [intOf]; omega
          · rw [if_neg hjm] at hg
            have q1 : ((j : Int) == (m : Int)) = false := by rw [beq_eq_false_iff_ne]; omega
            have HGJ := Lib.hid hg
            clear hg
            go_wp2_with (go_at_call 55; refine HGJ.out.mono ?_; rintro e w' ⟨rfl, n, rfl⟩)
            go_roundw
            case rel => exact ⟨j + 1, _, by go_num, by omega, rfl⟩
            case measure => simp [intOf]; omega
        · go_wp2_with fail
          refine (rmake_any 2 5 _ (by decide) (by decide) (by decide) (by decide)).mono ?_
          rintro e w' ⟨rfl, rfl⟩
          go_wp2_with fail
          refine (HD.out _).mono ?_
          rintro e w' ⟨rfl, n4, rfl⟩
          go_wp2_with (first | (go_at_call 29; refine (rmake_any 2 5 _ (by decide) (by decide) (by decide) (by decide)).mono ?_; rintro e w' ⟨rfl, rfl⟩) | (go_at_call 51; refine (awake5_any _).mono ?_; rintro e w' ⟨rfl, hb⟩))
          go_ret
          exact ⟨rfl, (x3.belowStep (below_ofDrew hb)).done (by decide)⟩

end Go.Proofs.Ytaahamgjhlnjnaa
