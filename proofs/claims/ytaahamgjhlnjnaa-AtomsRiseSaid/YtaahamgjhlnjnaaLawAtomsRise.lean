/- The walk of the law AtomsRise: a new name has the next number; one that was met has a number below. -/
import Derived.Test.YtaahamgjhlnjnaaAtomsLib
import Derived.Outline
namespace Go.Proofs.Ytaahamgjhlnjnaa
open Go.RowKit
set_option linter.unusedVariables false

set_option maxHeartbeats 3200000 in
set_option maxRecDepth 100000 in
theorem atomsRise_walk (A : Option Addr) (len cap : Nat) (xs : List ByteArray) {w : World} (hc : Came RStr 1 w A len cap xs) (_w : World) :
    Calls Try.prog 10 #[.slice A len cap] w fun e w' => e = .returned (.bool true) ∧ Below w.heap.size w w' := by
  have hmax := hc.max
  have hle := hc.le
  unfold maxLen at hmax
  go_enter Try.func10, Try.ntmps10
  go_wp2_with fail
  refine (anew_any own0 1 2 _ (by decide)).mono ?_
  rintro e w1 ⟨o1, p, x1, rfl, _, _, h1⟩
  replace x1 := x1.mono (jds := [1, 2]) (by simp)
  go_wp2_with fail
  go_loopw [14] (fun v wr => ∃ (k : Nat) (own : Nat → Nat) (L : List ByteArray), v = .int .i64 k ∧ k ≤ len ∧ Ext own0 own [1, 2] w wr ∧ TabP own 1 2 wr p L ∧ L.length ≤ 2 + k ∧ L.length ≤ 62) (fun v _ => len - (intOf v).toNat)
  case atStart => exact ⟨0, o1, names0, rfl, by omega, x1, h1, by decide, by decide⟩
  case round =>
    clear x1 h1
    obtain ⟨k, own, L, rfl, hk, x, a, hL, hL2⟩ := hrel
    by_cases hlt : k < len
    · obtain ⟨bb, oo, rfl⟩ := hc.addr (by omega)
      obtain ⟨s, hs, ck, hsm⟩ := hc.str (x.done (by decide)) k hlt
      clear hs
      by_cases h60 : k < 60
      · have h60' : (k : Int) < 60 := by omega
        by_cases hsz : s.size ≤ 200
        · have hsz' : (s.size : Int) ≤ 200 := by omega
          have hfd := fun n => afind_any own 1 2 p s L (wr.drewN n) (a.dr n) hsm
          by_cases hm : memB L s = true
          · obtain ⟨j, hj, hjl, _⟩ := findN_met hm
            have hnu := fun n => anumber_met own 1 2 p s L (wr.drewN n) (a.dr n) hsz hm
            rw [hj] at hnu hfd
            rw [hm] at hfd
            have hji : (j : Int) < L.length := by omega
            have HFD := Lib.hid hfd
            have HNU := Lib.hid hnu
            clear hfd hnu hj hm
            go_wp2_with (first | (go_at_call 37; refine (alen_any own 1 2 p L _ a).mono ?_; rintro e w' ⟨rfl, n, rfl⟩) | (go_at_call 37; refine (alen_any own 1 2 p L _ (a.dr _)).mono ?_; rintro e w' ⟨rfl, n, rfl⟩) | (go_at_call 44; refine (HFD.out _).mono ?_; rintro e w' ⟨rfl, n, rfl⟩) | (go_at_call 36; refine (HNU.out _).mono ?_; rintro e w' ⟨rfl, n, rfl⟩))
            go_roundw
            case rel => exact ⟨k + 1, own, L, by go_num, by omega, x.drewN _, a, by omega, by omega⟩
            case measure => simp [intOf]; omega
          · have hm' : memB L s = false := by simpa using hm
            have hnu := fun n => anumber_new own 1 2 p s L (wr.drewN n) (a.dr n) (by decide) hsz hm' (by omega)
            rw [hm', findN_not hm'] at hfd
            have HFD := Lib.hid hfd
            have HNU := Lib.hid hnu
            have hLn : (L.length : Int) ≤ 62 := by omega
            obtain ⟨M, hM⟩ : ∃ M, L ++ [s] = M := ⟨_, rfl⟩
            have hMl : M.length = L.length + 1 := by rw [← hM]; simp
            clear hfd hnu hm hm'
            go_wp2_with fail
            refine (alen_any own 1 2 p L _ a).mono ?_
            rintro e w' ⟨rfl, n1, rfl⟩
            go_wp2_with fail
            refine (HFD.out _).mono ?_
            rintro e w' ⟨rfl, n2, rfl⟩
            go_wp2_with fail
            refine (HNU.out _).mono ?_
            rw [hM]
            rintro e w2 ⟨own2, x2, rfl, a2⟩
            have hln := alen_any own2 1 2 p M _ a2
            rw [hMl] at hln
            have HLN := Lib.hid hln
            have HML := Lib.hid hMl
            clear hln hM hMl
            go_wp2_with (go_at_call 37; refine HLN.out.mono ?_; rintro e w' ⟨rfl, n, rfl⟩)
            go_roundw
            case rel => exact ⟨k + 1, own2, M, by go_num, by omega, (x.trans x2.ofDrew).drewN _, a2, by rw [HML.out]; omega, by rw [HML.out]; omega⟩
            case measure => simp [intOf]; omega
        · have hsz' : (200 : Int) < (s.size : Int) := by omega
          go_wp2_with fail
          go_roundw
          case rel => exact ⟨k + 1, own, L, by go_num, by omega, x, a, by omega, by omega⟩
          case measure => simp [intOf]; omega
      · have h60' : (60 : Int) ≤ k := by omega
        go_wp2_with fail
        go_roundw
        case rel => exact ⟨k + 1, own, L, by go_num, by omega, x, a, by omega, by omega⟩
        case measure => simp [intOf]; omega
    · go_wp2_with (go_at_call 38; refine (awake2_any _).mono ?_; rintro e w' ⟨rfl, hb⟩)
      go_ret
      exact ⟨rfl, (x.belowStep hb).done (by decide)⟩

end Go.Proofs.Ytaahamgjhlnjnaa
