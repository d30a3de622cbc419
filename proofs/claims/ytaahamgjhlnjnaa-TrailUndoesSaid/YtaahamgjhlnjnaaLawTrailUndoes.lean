/- The walk of the law TrailUndoes: what was set is as it was, mark behind mark, the last first. -/
import Derived.Test.YtaahamgjhlnjnaaTrailRounds
import Derived.Outline
import Derived.Deep.RegionWith
import Derived.Deep.DeepCutAuto
import Derived.Deep.CutBlock
namespace Go.Proofs.Ytaahamgjhlnjnaa
open Go.RowKit
set_option linter.unusedVariables false

set_option maxHeartbeats 12800000 in
set_option maxRecDepth 100000 in
theorem trailUndoes_walk (A : Option Addr) (len cap : Nat) (xs : List Int) {w : World} (hc : Came RWord 1 w A len cap xs) (A' : Option Addr) (len' cap' : Nat) (rs : List (List GCall)) (hd : Came (RRound w) 1 w A' len' cap' rs) (_w : World) :
    Calls Try.prog 17 #[.slice A len cap, .slice A' len' cap'] w fun e w' => e = .returned (.bool true) ∧ Below w.heap.size w w' := by
  have hmax := hc.max
  have hle := hc.le
  have hmax' := hd.max
  have hle' := hd.le
  unfold maxLen at hmax hmax'
  have hlen := hc.length
  have HLN := Lib.hid hlen
  have hlen' := hd.length
  have HLN' := Lib.hid hlen'
  clear hlen hlen'
  go_enter Try.func17, Try.ntmps17
  go_wp2_with fail
  refine (new_any own0 1 200 _).mono ?_
  rintro e w1 ⟨o1, x1, rfl, hp1, a1⟩
  generalize w.heap.size = pa at *
  go_wp2_with fail
  refine (tnew_any o1 3 _).mono ?_
  rintro e w5 ⟨o5, x5, rfl, hp5, c5⟩
  replace a1 := a1.keep x5 (by decide)
  generalize w1.heap.size = pc at *
  replace x5 := (x1.mono (jds := [1, 3, 6, 7]) (by simp)).trans (x5.mono (by simp))
  clear x1 hp1 hp5
  go_wp2_with fail
  obtain ⟨x6, k6, z6⟩ := x5.box [.pointer (some ⟨pa, 0, none⟩)] 64 9
  replace a1 := a1.keep z6 (by decide)
  replace c5 := c5.keep z6 (by decide)
  clear z6 x5
  generalize _root_.Go.Proofs.Ytaahamgjhlnjnaa.give o5 w5.heap.size 9 = o6 at *
  generalize w5.heap.size = bh at *
  generalize w5.alloc (.cells #[.pointer (some ⟨pa, 0, none⟩)] 64) = w6 at *
  go_loopw [21] (fun v wr => ∃ (k : Nat) (own : Nat → Nat), v = .int .i64 k ∧ k ≤ len ∧ Ext own0 own [1, 3, 6, 7] w wr ∧ HP own 1 wr pa 200 ((xs.take 60).take k) ∧ TP own 3 wr pc [] ∧ Blk own 9 wr bh [.pointer (some ⟨pa, 0, none⟩)] 64) (fun v _ => len - (intOf v).toNat)
  case atStart => exact ⟨0, o6, rfl, by omega, x6, a1, c5, k6⟩
  case round =>
    obtain ⟨k, own, rfl, hk, x, a, c, kh⟩ := hrel
    clear a1 c5 k6 x6
    have f0 := kh.cell 0 rfl
    by_cases hlt : k < len
    · obtain ⟨bb, oo, rfl⟩ := hc.addr (by omega)
      have ck := hc.word (x.done (by decide)) k hlt
      by_cases h30 : k < 60
      · have h30' : ((k : Int) < 60) := by omega
        have hpa := push_room own 1 pa 200 (xs.getD k 0) ((xs.take 60).take k) wr a (by have h1 := List.length_take_le k (xs.take 60); omega)
        have hn : (xs.take 60).take k ++ [xs.getD k 0] = (xs.take 60).take (k + 1) := by
          rw [take_succ_getD (xs.take 60) k (by rw [List.length_take, HLN.out]; omega)]
          congr 2
          simp [List.getD, h30]
        rw [hn] at hpa
        clear hn
        go_wp2_with fail
        refine hpa.mono ?_
        rintro e w2 ⟨own2, x2, rfl, a2⟩
        go_wp2_with fail
        go_roundw
        case rel => exact ⟨k + 1, own2, by go_num, by omega, x.trans (x2.mono (by simp)), a2, c.keep x2 (by decide), kh.keep x2 (by decide)⟩
        case measure => simp [intOf]; omega
      · have h30' : ((60 : Int) ≤ k) := by omega
        have hn : (xs.take 60).take k = (xs.take 60).take (k + 1) := by
          rw [take_stay _ _ _ (by omega), take_stay _ _ _ (by omega)]
        rw [hn] at a
        go_wp2_with fail
        go_roundw
        case rel => exact ⟨k + 1, own, by go_num, by omega, x, a, c, kh⟩
        case measure => simp [intOf]; omega
    · obtain rfl : k = len := by omega
      have hl60 : ((xs.take 60).take k).length ≤ 60 := by have h1 := List.length_take_le' k (xs.take 60); have h2 := List.length_take_le 60 xs; omega
      clear hlt hk hc f0
      generalize (xs.take 60).take k = l0 at *
      have hST := sts_length l0 rs
      have HST := Lib.hid hST
      clear hST
      go_wp2_with fail
      go_loopw [10, 11, 35] (fun vm vw v wr => ∃ (i : Nat) (own : Nat → Nat) (vs : List Value), v = .int .i64 i ∧ i ≤ len' ∧ i ≤ 8 ∧ vs.length = i ∧ Ext own0 own [1, 3, 6, 7] w wr ∧ HP own 1 wr pa 200 (sts l0 rs i).1 ∧ TP own 3 wr pc (sts l0 rs i).2 ∧ Blk own 9 wr bh [.pointer (some ⟨pa, 0, none⟩)] 64 ∧
        Row own 6 wr 3 1 vm i (nums64 (marksL l0 rs i)) ∧ Row own 7 wr 69 1 vw i vs ∧ Looked own wr l0 rs vs) (fun _ _ v _ => len' - (intOf v).toNat)
      case atStart => exact ⟨0, own, [], rfl, by omega, by omega, rfl, x, a, c, kh, Row.nil _ _ _ _ _, Row.nil _ _ _ _ _, fun m v h => by simp at h⟩
      case round =>
        clear a c kh x
        obtain ⟨i, own, vs, rfl, hi, hi8, hvs, x, a, c, kh, hm, hw, hk⟩ := hrel
        by_cases hlt : i < len' ∧ i < 8
        · obtain ⟨hlt, h8⟩ := hlt
          have h8' : ((i : Int) < 8) := by omega
          obtain ⟨bb, oo, rfl⟩ := hd.addr (by omega)
          obtain ⟨b', o', cs, he, ⟨Ar, lr, cr, rfl, hcr⟩, _, hcl⟩ := hd.cell (x.done (by decide)) i _ (List.getElem?_eq_getElem (by rw [HLN'.out]; exact hlt))
          simp only [Option.some.injEq, Addr.mk.injEq, and_true] at he
          obtain ⟨rfl, rfl⟩ := he
          have cl := hcl 0 _ rfl
          rw [Nat.mul_one, Nat.add_zero] at cl
          have hgd : rs.getD i [] = rs[i]'(by rw [HLN'.out]; exact hlt) := by simp [List.getD, HLN'.out, hlt]
          rw [← hgd] at hcr
          clear hgd hcl
          have hS := HST.out i
          go_wp2_with fail
          refine (tmark_any own 3 pc _ _ c).mono ?_
          rintro e w' ⟨rfl, n1, rfl⟩
          have hm1 : Row own 6 (wr.drewN n1) _ _ _ _ _ := hm
          have hw1 : Row own 7 (wr.drewN n1) _ _ _ _ _ := hw
          have hk1 : Looked own (wr.drewN n1) l0 rs vs := hk
          have kh1 : Blk own 9 (wr.drewN n1) bh _ _ := kh
          have a1 := a.dr n1
          have c1 := c.dr n1
          have x1 := x.drewN n1
          generalize wr.drewN n1 = w1 at *
          clear a c x hm hw hk kh
          obtain ⟨Am, cm, rfl, hcm⟩ := hm1.form
          obtain ⟨Aw, cw, rfl, hcw⟩ := hw1.form
          go_wp2_with (at_builtin; refine wpList_append_row rfl _ _ 81 rfl 3 (.int .i64 0) 1 8 Try.underlying81 info_int rfl (by decide) (by decide) rfl rfl rfl (one_cell' _ rfl) hm1 (by omega) ?_)
          intro g2 cap2 w2 own2 hm2 x2 _ _
          have hw2 := hw1.keep x2 (by decide)
          have hk2 := hk1.keep x2 (by decide)
          have kh2 := kh1.keep x2 (by decide)
          have a2 := a1.keep x2 (by decide)
          have c2 := c1.keep x2 (by decide)
          replace x2 := x1.trans (x2.mono (by simp))
          clear hm1 hw1 hk1 kh1 a1 c1 x1
          go_wp2_with fail
          refine (look_any own2 1 8 pa bh 200 _ _ a2 kh2).mono ?_
          rintro e w3 ⟨v3, own3, rfl, x3, hv3⟩
          have hm3 := hm2.keep x3 (by simp)
          have hw3 := hw2.keep x3 (by simp)
          have hk3 := hk2.keep x3 (by simp)
          have kh3 := kh2.keep x3 (by simp)
          have a3 := a2.keep x3 (by simp)
          have c3 := c2.keep x3 (by simp)
          replace x3 := x2.trans (x3.mono (by simp))
          clear hm2 hw2 hk2 kh2 a2 c2 x2
          rw [hS.1] at hv3
          obtain ⟨A3, ca3, rfl, hc3⟩ := hv3.form
          go_wp2_with (at_builtin; refine wpList_append_row rfl _ _ 82 rfl 69 (.slice none 0 0) 1 24 Try.underlying82 info_cells rfl (by decide) (by decide) rfl rfl rfl (one_cell' _ rfl) hw3 (by omega) ?_)
          intro g4 cap4 w4 own4 hw4 x4 _ _
          have hm4 := hm3.keep x4 (by decide)
          have hv4 := hv3.keep x4 (by decide)
          have hk4 := hk3.keep x4 (by decide)
          have kh4 := kh3.keep x4 (by decide)
          have a4 := a3.keep x4 (by decide)
          have c4 := c3.keep x4 (by decide)
          replace x4 := x3.trans (x4.mono (by simp))
          have hk4' := hk4.push (by rw [hvs]; exact hv4)
          have hm4' : Row own4 6 w4 3 1 (.slice (some ⟨g2, 0, none⟩) (i + 1) cap2) (i + 1) (nums64 (marksL l0 rs (i + 1))) := by rw [marksL_succ]; simpa [nums64] using hm4
          clear hm3 hv3 hw3 hk3 kh3 a3 c3 x3 hm4 hk4 hv4
          have hS1 := HST.out (i + 1)
          have hst : sts l0 rs (i + 1) = tgo (sts l0 rs i) ((rs.getD i []).take 20) := rfl
          have HSS := Lib.hid hst
          clear hst
          generalize hrr : rs.getD i [] = ys at *
          generalize sts l0 rs i = s0 at *
          obtain ⟨l1, L1⟩ := s0
          have hL1 : L1.length ≤ 160 := by have := hS.2; simp only at this; omega
          have hly := hcr.length
          have HLY := Lib.hid hly
          have hmy := hcr.max
          have hly2 := hcr.le
          unfold maxLen at hmy
          have h1000 : ∀ j, (tgo (l1, L1) ((ys.take 20).take j)).2.length < 1000000000 := fun j => by
            have h1 := (tgo_length ((ys.take 20).take j) (l1, L1)).2.2
            have h2 : ((ys.take 20).take j).length ≤ 20 := Nat.le_trans (List.length_take_le' _ _) (by rw [List.length_take]; omega)
            have h3 : (l1, L1).2.length = L1.length := rfl
            omega
          have H1000 := Lib.hid h1000
          clear h1000 hly hrr
          go_wp2_with fail
          go_loopw [54] (fun v wr => ∃ (j : Nat) (own : Nat → Nat), v = .int .i64 j ∧ j ≤ lr ∧ Ext own0 own [1, 3, 6, 7] w wr ∧ HP own 1 wr pa 200 (tgo (l1, L1) ((ys.take 20).take j)).1 ∧ TP own 3 wr pc (tgo (l1, L1) ((ys.take 20).take j)).2 ∧ Blk own 9 wr bh [.pointer (some ⟨pa, 0, none⟩)] 64 ∧
            Row own 6 wr 3 1 (.slice (some ⟨g2, 0, none⟩) (i + 1) cap2) (i + 1) (nums64 (marksL l0 rs (i + 1))) ∧ Row own 7 wr 69 1 (.slice (some ⟨g4, 0, none⟩) (i + 1) cap4) (i + 1) (vs ++ [.slice A3 l0.length ca3]) ∧ Looked own wr l0 rs (vs ++ [.slice A3 l0.length ca3])) (fun v _ => lr - (intOf v).toNat)
          case atStart => exact ⟨0, own4, rfl, by omega, x4, a4, c4, kh4, hm4', hw4, hk4'⟩
          case round =>
            clear x4 a4 c4 kh4 hm4' hw4 hk4'
            obtain ⟨j, own, rfl, hj, x, a, c, kh, hm, hw, hk⟩ := hrel
            by_cases hlt2 : j < lr
            · obtain ⟨bb2, oo2, rfl⟩ := hcr.addr (by omega)
              obtain ⟨y, hy, e0, e1, e2, r0, r1, r2⟩ := hcr.call (x.done (by decide)) j hlt2
              by_cases h20 : j < 20
              · have h20' : ((j : Int) < 20) := by omega
                have hn := tgo_succ (l1, L1) (ys.take 20) j y (by rw [List.getElem?_take_of_lt h20]; exact hy)
                have HN := Lib.hid hn
                have h9 := H1000.out j
                clear hn hy
                generalize tgo (l1, L1) ((ys.take 20).take j) = s at *
                obtain ⟨l2, L2⟩ := s
                obtain ⟨xb, hbx, xb0⟩ := x.box [.int .i64 y.dom, .int .i64 y.at_, .int .u64 y.c] 85 9
                have ab := a.keep xb0 (by simp)
                have cb := c.keep xb0 (by simp)
                have khb := kh.keep xb0 (by simp)
                have hmb := hm.keep xb0 (by simp)
                have hwb := hw.keep xb0 (by simp)
                have hkb := hk.keep xb0 (by simp)
                have f0 := khb.cell 0 rfl
                clear xb0 a c x kh hm hw hk
                generalize _root_.Go.Proofs.Ytaahamgjhlnjnaa.give own wr.heap.size 9 = ob at *
                go_wp2_with fail
                refine (tset_any ob 1 3 pa pc 200 y.at_ y.c l2 L2 _ ab cb (by decide) h9).mono ?_
                rintro e w5 ⟨own5, x5, rfl, a5, c5⟩
                go_wp2_with fail
                go_roundw
                case rel => exact ⟨j + 1, own5, by go_num, by omega, xb.trans (x5.mono (by simp)), by rw [HN.out]; exact a5, by rw [HN.out]; exact c5, khb.keep x5 (by decide), hmb.keep x5 (by decide), hwb.keep x5 (by decide), hkb.keep x5 (by decide)⟩
                case measure => simp [intOf]; omega
              · have h20' : ((20 : Int) ≤ j) := by omega
                have hn : (ys.take 20).take j = (ys.take 20).take (j + 1) := by
                  rw [take_stay _ _ _ (by omega), take_stay _ _ _ (by omega)]
                rw [hn] at a c
                go_wp2_with fail
                go_roundw
                case rel => exact ⟨j + 1, own, by go_num, by omega, x.alloc _, a.alloc _, c.alloc _, kh.alloc _, hm.alloc _, hw.alloc _, fun m v hv => (hk m v hv).alloc _⟩
                case measure => simp [intOf]; omega
            · obtain rfl : j = lr := by omega
              have e1 : (ys.take 20).take j = ys.take 20 := List.take_of_length_le (by rw [List.length_take, HLY.out]; omega)
              rw [e1, ← HSS.out] at a c
              clear e1
              go_wp2_with fail
              go_roundw
              case rel => exact ⟨i + 1, own, _, by go_num, by omega, by omega, by rw [List.length_append, hvs]; rfl, x, a, c, kh, hm, hw, hk⟩
              case measure => simp [intOf]; omega
        · obtain ⟨Am, cm, rfl, hcm⟩ := hm.form
          obtain ⟨Aw, cw, rfl, hcw⟩ := hw.form
          have hor : ¬ i < len' ∨ (i < len' ∧ (8 : Int) ≤ i ∧ ∃ bb oo Ar lr cr, A' = some ⟨bb, oo, none⟩ ∧ wr.cell? ⟨bb, oo + i, none⟩ = some (.slice Ar lr cr)) := by
            by_cases hil : i < len'
            · obtain ⟨bb, oo, rfl⟩ := hd.addr (by omega)
              obtain ⟨b', o', cs, he, ⟨Ar, lr, cr, rfl, hcr⟩, _, hcl⟩ := hd.cell (x.done (by decide)) i _ (List.getElem?_eq_getElem (by rw [HLN'.out]; exact hil))
              simp only [Option.some.injEq, Addr.mk.injEq, and_true] at he
              obtain ⟨rfl, rfl⟩ := he
              have cl := hcl 0 _ rfl
              rw [Nat.mul_one, Nat.add_zero] at cl
              exact Or.inr ⟨hil, by omega, bb, oo, Ar, lr, cr, rfl, cl⟩
            · exact Or.inl hil
          clear hlt HLN HLN' hmax hle hmax' hle' hcm hcw hd
          rcases hor with hil | ⟨hil, hi8', bb, oo, Ar, lr, cr, rfl, cl⟩
          all_goals
            go_wp2_with fail
            go_loopw [16] (fun v wr => ∃ (j : Nat) (own : Nat → Nat), v = .int .i64 ((j : Int) - 1) ∧ j ≤ i ∧ Ext own0 own [1, 3, 6, 7] w wr ∧ HP own 1 wr pa 200 (sts l0 rs j).1 ∧ TP own 3 wr pc (sts l0 rs j).2 ∧ Blk own 9 wr bh [.pointer (some ⟨pa, 0, none⟩)] 64 ∧
              Row own 6 wr 3 1 (.slice Am i cm) i (nums64 (marksL l0 rs i)) ∧ Row own 7 wr 69 1 (.slice Aw i cw) i vs ∧ Looked own wr l0 rs vs) (fun v _ => (intOf v + 1).toNat)
            case atStart => exact ⟨i, own, rfl, by omega, x, a, c, kh, hm, hw, hk⟩
            case round =>
              clear x a c kh hm hw hk
              obtain ⟨j, own, rfl, hj, x, a, c, kh, hm, hw, hk⟩ := hrel
              by_cases hj0 : j = 0
              · subst hj0
                replace c : TP own 3 wr pc [] := c
                have hln := tlen_any own 3 pc [] wr c
                go_wp2_with (first | (go_at_call 60; refine hln.mono ?_; rintro e w' ⟨rfl, n, rfl⟩) | (go_at_call 62; refine (awake6_any _).mono ?_; rintro e w' ⟨rfl, hb⟩))
                go_ret
                exact ⟨rfl, (x.belowStep (below_ofDrew hb)).done (by decide)⟩
              · obtain ⟨q, rfl⟩ : ∃ q, j = q + 1 := ⟨j - 1, by omega⟩
                rw [show (((q + 1 : Nat) : Int) - 1) = q from by omega]
                have hB := sts_back l0 rs q
                have hS0 := HST.out q
                have hS1 := HST.out (q + 1)
                obtain ⟨gm, cm', hv, _⟩ := hm.form_pos (by omega)
                cases hv
                obtain ⟨gw, cw', hv, _⟩ := hw.form_pos (by omega)
                cases hv
                have hmk0 := marksL_get l0 rs i q (by omega)
                have HMK := Lib.hid hmk0
                have cmk := hm.cell q hmk0
                obtain ⟨vq, hvq⟩ : ∃ vq, vs[q]? = some vq := ⟨_, List.getElem?_eq_getElem (by omega)⟩
                have hrq := hk q vq hvq
                obtain ⟨Aq, cq, rfl, hcq⟩ := hrq.form
                have HVQ := Lib.hid hvq
                have hst0 : ∃ s0, sts l0 rs q = s0 := ⟨_, rfl⟩
                obtain ⟨s0, hs0⟩ := hst0
                have HS0 := Lib.hid hs0
                rw [hs0] at hB hS0 cmk hrq
                generalize sts l0 rs (q + 1) = s1 at *
                clear hs0 hvq hmk0
                obtain ⟨l1, L1⟩ := s0
                obtain ⟨l2, L2⟩ := s1
                obtain ⟨hB1, hB2, hB3⟩ := hB
                simp only at hB1 hB2 hB3 hS0 hS1
                have hud := fun W (hA : HP own 1 W pa 200 l2) (hC : TP own 3 W pc L2) => tundo_le own 1 3 pa pc 200 L1.length l2 L2 W hA hC (by decide) (by omega) (by omega) (by omega)
                rw [Int.toNat_natCast, hB1, hB2] at hud
                obtain ⟨M, hM⟩ : ∃ M, L1.length = M := ⟨_, rfl⟩
                rw [show ((l1, L1) : List Int × List (Int × Int)).2.length = M from hM] at cmk
                rw [hM] at hud
                have hll := hS0.1
                replace hrq : Row own 8 wr 24 1 (.slice Aq l0.length cq) l1.length (words l1) := by rw [hll]; exact hrq
                have hlen : l1.length < 1000000000 := by have := a.len; omega
                have HUD := Lib.hid hud
                have HM := Lib.hid hM
                have HLL := Lib.hid hll
                have f0 := kh.cell 0 rfl
                have hqi : (q : Int) < i := by omega
                clear hud hM hB1 hB2 hB3 hS0 hS1 hll hcq
                go_wp2_with fail
                go_cut [] (fun wc => ∃ own2, Ext own own2 [1, 3] wr wc ∧ HP own2 1 wc pa 200 l1 ∧ TP own2 3 wc pc L1)
                case first =>
                  go_region_with (go_at_call 59; refine (HUD.out _ (by exact a) (by exact c)).mono ?_; rintro e w' ⟨own2, x2, rfl, a2, c2⟩)
                  all_goals
                    go_wp2_with fail
                    go_meet
                    exact ⟨own2, by first | exact x2 | exact x2.ofDrew1 | exact x2.ofDrew, a2, c2⟩
                case rest =>
                  obtain ⟨own2, x2, a2, c2⟩ := hcut
                  have kh2 := kh.keep x2 (by decide)
                  have hm2 := hm.keep x2 (by decide)
                  have hw2 := hw.keep x2 (by decide)
                  have hk2 := hk.keep x2 (by decide)
                  have hq2 := hrq.keep x2 (by decide)
                  have y2 := x.trans (x2.mono (by decide))
                  have cmk2 : wc.cell? ⟨gm, q, none⟩ = some (.int .i64 M) := by
                    have h := hm2.cell q HMK.out
                    rw [HS0.out] at h
                    rw [h, show ((l1, L1) : List Int × List (Int × Int)).2.length = M from HM.out]
                  have cwk2 := hw2.cell q HVQ.out
                  have f02 := kh2.cell 0 rfl
                  have hlm := tlen_any own2 3 pc L1
                  rw [HM.out] at hlm
                  have HLM := Lib.hid hlm
                  clear hlm x2 x a c kh hm hw hk hrq cmk f0
                  go_wp2_with fail
                  go_region_with (first | (go_at_call 60; refine (HLM.out _ (by exact c2)).mono ?_; rintro e w3 ⟨rfl, n3, rfl⟩) | (go_at_call 64; refine (look_any own2 1 10 pa bh 200 l1 _ (by exact a2) (by exact kh2)).mono ?_; rintro e w3 ⟨v3, own3, rfl, x3, hv3⟩; have hq3 := hq2.keep x3.ofDrew (by simp); have cw3 := (hw2.keep x3.ofDrew (by simp)).cell q HVQ.out) | (go_at_call 65; refine (same_true own3 10 8 _ _ l1 _ (by exact hv3) (by exact hq3) hlen).mono ?_; rintro e w4 ⟨rfl, n4, rfl⟩))
                  all_goals
                    have y3 : Ext own0 own3 [1, 3, 6, 7] w w3 := y2.trans (x3.ofDrew.mono (by simp))
                    have kh3 := kh2.keep x3.ofDrew (by simp)
                    have hm3 := hm2.keep x3.ofDrew (by simp)
                    have hw3 := hw2.keep x3.ofDrew (by simp)
                    have hk3 := hk2.keep x3.ofDrew (by simp)
                    have a3 := a2.keep x3.ofDrew (by simp)
                    have c3 := c2.keep x3.ofDrew (by simp)
                    go_wp2_with fail
                    go_roundw
                    case rel => exact ⟨q, own3, by go_num, by omega, y3.drewN _, by rw [HS0.out]; exact a3, by rw [HS0.out]; exact c3, kh3, hm3, hw3, hk3⟩
                    case measure => simp [intOf]

end Go.Proofs.Ytaahamgjhlnjnaa
