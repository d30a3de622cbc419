/- The walk of the law HeapPlays: any calls on a heap and on the reference's: each answer, each cell, and what any cell comes to. -/
import Derived.Test.YtaahamgjhlnjnaaPlay
import Derived.Test.YtaahamgjhlnjnaaLawHeapApart
import Derived.Test.YtaahamgjhlnjnaaRDeref
import Derived.Outline
import Derived.Deep.DeepCutAuto
import Derived.Deep.CutBlock
namespace Go.Proofs.Ytaahamgjhlnjnaa
open Go.RowKit
set_option linter.unusedVariables false

theorem quiet_genQ {P : Program} {f : FuncId} {args : Array Value} {X : World} {F : Nat → World} {v : Value} (h : Calls P f args X (Quiet X v)) (hx : ∀ n, ∃ m, X.drewN n = F m) :
    Calls P f args X fun e w'' => e = .returned v ∧ ∃ m, w'' = F m :=
  h.mono fun _ _ ⟨he, n, hm⟩ => ⟨he, by obtain ⟨m, h2⟩ := hx n; exact ⟨m, by rw [hm, h2]⟩⟩
theorem RH.alloc {own : Nat → Nat} {id p : Nat} {w : World} {most : Int} {l : List Int} (h : RH own id w p most l) (o : Obj) : RH own id (w.alloc o) p most l := by
  obtain ⟨v, hb, hr, h1, h2⟩ := h
  exact ⟨v, hb.alloc o, hr.alloc o, h1, h2⟩
theorem HP.lt {own : Nat → Nat} {id p : Nat} {w : World} {most : Int} {l : List Int} (h : HP own id w p most l) : p < w.heap.size := by
  obtain ⟨_, hb, _⟩ := h; exact hb.lt
theorem rset_end {own : Nat → Nat} {id p gg cap j : Nat} {most c : Int} {l : List Int} {w : World} (hb : Blk own id w p [.slice (some ⟨gg, 0, none⟩) l.length cap, .int .i64 most] 106) (hr : Row own id w 24 1 (.slice (some ⟨gg, 0, none⟩) l.length cap) l.length (words l))
    (h1 : (l.length : Int) ≤ most) (h2 : most ≤ 1048576) : Ext own own [id] w (w.setCell ⟨gg, j, none⟩ (.int .u64 c)) ∧ RH own id (w.setCell ⟨gg, j, none⟩ (.int .u64 c)) p most (l.set j c) := by
  have hne := hr.ne_blk hb (by decide)
  refine ⟨(Ext.refl own [id] w).setCell _ _ (fun _ => by show own gg ∈ [id]; rw [hr.2 gg rfl]; simp), _, (hb.far (p := ⟨gg, j, none⟩) (fun e => hne (by simp [Value.ownBlock]; exact e)) _), ?_, by simpa using h1, h2⟩
  have := hr.set j (Value.int .u64 c)
  rw [words_set] at this
  rw [List.length_set]
  exact this
theorem rcut_end {own : Nat → Nat} {id p cap j : Nat} {A : Option Addr} {most : Int} {l : List Int} {w : World} (hb : Blk own id w p [.slice A l.length cap, .int .i64 most] 106) (hr : Row own id w 24 1 (.slice A l.length cap) l.length (words l))
    (h1 : (l.length : Int) ≤ most) (h2 : most ≤ 1048576) (hj : j ≤ l.length) : Ext own own [id] w (w.setCell ⟨p, 0, none⟩ (.slice A j cap)) ∧ RH own id (w.setCell ⟨p, 0, none⟩ (.slice A j cap)) p most (l.take j) := by
  have hne := hr.ne_blk hb (by decide)
  have hcut := hr.cut (m := j) hj
  refine ⟨(Ext.refl own [id] w).setCell _ _ (fun _ => by show own p ∈ [id]; rw [hb.2]; simp), _, hb.set 0 _, ?_, by simp; omega, h2⟩
  have := hcut.far (p := ⟨p, 0, none⟩) (by cases A with | none => simp [Value.ownBlock] | some a => simpa [Value.ownBlock] using hne) (.slice A j cap)
  rw [Nat.mul_one, words_take] at this
  rw [List.length_take, Nat.min_eq_left hj]
  exact this
theorem stepL_nonneg {most : Int} {l : List Int} {y : GCall} (h : ∀ x ∈ l, 0 ≤ x) (hy : 0 ≤ y.c) : ∀ x ∈ stepL most l y, 0 ≤ x := playL_nonneg [y] l h (by simpa using hy)
/-- The relation of the law's loop. -/
def Both (w : World) (most : Int) (p q : Nat) (wr : World) (own : Nat → Nat) (l : List Int) : Prop :=
  Ext own0 own [1, 2, 9] w wr ∧ HP own 1 wr p most l ∧ RH own 2 wr q most l

set_option maxHeartbeats 6400000 in
set_option maxRecDepth 100000 in
theorem heapPlays_walk (most : Int) (wm : (Lit.int .i64 most).wf = true) (A : Option Addr) (len cap : Nat) (xs : List GCall) {w : World} (hc : Came RCall 3 w A len cap xs) (c : Int) (wc : (Lit.int .u64 c).wf = true) (_w : World) :
    Calls Try.prog 23 #[.int .i64 most, .slice A len cap, .int .u64 c] w fun e w' => e = .returned (.bool true) ∧ Below w.heap.size w w' := by
  have bc := wf_u64 wc
  clear wc wm
  have hmax := hc.max
  have hle := hc.le
  unfold maxLen at hmax
  go_enter Try.func23, Try.ntmps23
  go_wp2_with fail
  refine (new_any own0 1 most _).mono ?_
  rintro e w1 ⟨o1, x1, rfl, hp1, a1⟩
  generalize w.heap.size = pa at *
  go_wp2_with fail
  refine (rnew_any o1 2 most _).mono ?_
  rintro e w2 ⟨o2, x2, rfl, hp2, b2⟩
  generalize w1.heap.size = pb at *
  have a2 := a1.keep x2 (by decide)
  have x3 := (x1.trans x2).mono (jds := [1, 2, 9]) (by simp)
  have hmr := mostOf_range most
  generalize mostOf most = mo at *
  clear hmr
  clear x1 x2 a1
  have hmo := most_any o2 1 pa mo [] w2 a2
  have r0 : ∃ v, Blk o2 2 w2 pb [v, .int .i64 mo] 106 := by obtain ⟨v, hb, _⟩ := b2; exact ⟨v, hb⟩
  obtain ⟨vb, hbb⟩ := r0
  have c1 := hbb.cell 1 rfl
  go_wp2_with fail
  go_quiet ((go_at_call 74; exact quiet_genQ (most_any o2 1 pa mo [] _ (by exact a2)) (fun n => by first | exact ⟨n, rfl⟩ | exact ⟨_, World.drewN_drewN _ _ _⟩ | exact ⟨_, (World.drewN_drewN _ _ _).trans (congrArg (World.drewN _) (Nat.add_assoc _ _ _))⟩)))
  go_wp2_with fail
  have HBO : Hid (Both w mo pa pb (w2.drewN nq) o2 []) := ⟨x3.drewN nq, a2, b2⟩
  have hrg := hc.call_range
  have HRG := Lib.hid hrg
  clear hrg hbb c1 hmo x3 a2 b2
  go_loopw [9] (fun v wr => ∃ (k : Nat) (own : Nat → Nat) (L : List Int), v = .int .i64 k ∧ k ≤ len ∧ k ≤ 150 ∧ Both w mo pa pb wr own L ∧ ∀ x ∈ L, 0 ≤ x) (fun v _ => len - (intOf v).toNat)
  case atStart => exact ⟨0, o2, [], rfl, by omega, by omega, HBO.out, by simp⟩
  case round =>
    clear HBO
    obtain ⟨k, own, L, rfl, hk, hk1, ⟨x, a, b⟩, hnn⟩ := hrel
    by_cases hlt : k < len ∧ k < 150
    · obtain ⟨hlt, h150⟩ := hlt
      have h150' : (k : Int) < 150 := by omega
      obtain ⟨bk, o, rfl⟩ := hc.addr (by omega)
      obtain ⟨y, hy, d0, d1, d2, r0, r1, r2⟩ := hc.call (x.done (by decide)) k hlt
      obtain ⟨xb, hbx, xb0⟩ := x.box [.int .i64 y.dom, .int .i64 y.at_, .int .u64 y.c] 94 9
      have ab := a.keep xb0 (by decide)
      have bb := b.keep xb0 (by decide)
      clear xb0 hy
      generalize hq : wr.heap.size = q at *
      obtain ⟨vb, hbm, hbr, hbl, _⟩ := id bb
      obtain ⟨A', cap', rfl, hcc⟩ := hbr.form
      have e0 := hbx.cell 0 rfl
      have e1 := hbx.cell 1 rfl
      have e2 := hbx.cell 2 rfl
      have m0 := hbm.cell 0 rfl
      have hlq : 0 ≤ (L.length : Int) := by omega
      go_upto_region 8 with fail
      generalize wr.alloc (.cells #[.int .i64 y.dom, .int .i64 y.at_, .int .u64 y.c] 94) = w1 at *
      clear a b x
      go_cut [11] (fun s11 wc => s11 = .bool (inB L y.at_) ∧ ∃ n, wc = w1.drewN n)
      case first =>
        by_cases hin0 : 0 ≤ y.at_
        · have t1 : decide (0 ≤ y.at_) = true := decide_eq_true hin0
          by_cases hin1 : y.at_ < L.length
          · have t2 : decide (y.at_ < (L.length : Int)) = true := decide_eq_true hin1
            go_quiet (fail)
            go_wp2_with fail
            go_meet
            exact ⟨by rw [inB_true hin0 hin1], _, rfl⟩
          · have t2 : decide (y.at_ < (L.length : Int)) = false := decide_eq_false hin1
            go_quiet (fail)
            go_wp2_with fail
            go_meet
            exact ⟨by rw [inB_false (by omega)], _, rfl⟩
        · have t1 : decide (0 ≤ y.at_) = false := decide_eq_false hin0
          go_quiet (fail)
          go_wp2_with fail
          go_meet
          exact ⟨by rw [inB_false (by omega)], _, rfl⟩
      case rest =>
        obtain ⟨rfl, n, rfl⟩ := hcut
        go_upto_block 2 with (fail)
        generalize _root_.Go.Proofs.Ytaahamgjhlnjnaa.give own q 9 = ob at *
        clear m0 hbm hbr
        go_cut [11] (fun _ wc => ∃ own', Both w mo pa pb wc own' (stepL mo L y) ∧ Blk own' 9 wc q [.int .i64 y.dom, .int .i64 y.at_, .int .u64 y.c] 94)
        case first =>
          have XB := xb.drewN n
          by_cases hd0 : y.dom = 0
          · have t0 : (y.dom == 0) = true := beq_iff_eq.2 hd0
            by_cases hroom : (L.length : Int) < mo
            · have hstep : stepL mo L y = L ++ [y.c] := by unfold stepL pushL; rw [if_pos hd0, if_pos hroom]
              have HST := Lib.hid hstep
              clear hstep hd0
              go_wp2_with fail
              refine (push_room ob 1 pa mo y.c L _ (ab.dr n) hroom).mono ?_
              rintro e w2 ⟨o2, y2, rfl, a2⟩
              have hb2 : Blk o2 9 w2 q _ _ := Blk.keep (w := w1.drewN n) hbx y2 (by decide)
              have b2 := (bb.dr n).keep y2 (by decide)
              have f2 := hb2.cell 2 rfl
              go_wp2_with fail
              refine (rpush_room o2 2 pb mo y.c L _ b2 hroom).mono ?_
              rintro e w3 ⟨o3, y3, rfl, b3⟩
              go_wp2_with fail
              go_meet
              rw [HST.out]
              exact ⟨o3, ⟨(XB.trans (y2.mono (by decide))).trans (y3.mono (by decide)), a2.keep y3 (by decide), b3⟩, hb2.keep y3 (by decide)⟩
            · have hfull : Hid ((L.length : Int) = mo) := by have := ab.len; show _ = _; omega
              have hstep : stepL mo L y = L := by unfold stepL pushL; rw [if_pos hd0, if_neg hroom]
              have HST := Lib.hid hstep
              clear hstep hd0
              go_wp2_with fail
              refine (push_full ob 1 pa mo y.c L _ (ab.dr n) hfull.out).mono ?_
              rintro e w2 ⟨rfl, n2, rfl⟩
              go_wp2_with fail
              refine (rpush_full ob 2 pb mo y.c L _ (bb.dr _) hfull.out).mono ?_
              rintro e w3 ⟨rfl, n3, rfl⟩
              go_wp2_with fail
              go_meet
              rw [HST.out]
              exact ⟨ob, ⟨xb.drewN _, ab, bb⟩, hbx⟩
          · have t0 : (y.dom == 0) = false := beq_eq_false_iff_ne.2 hd0
            by_cases hd1 : y.dom = 1
            · have t1 : (y.dom == 1) = true := beq_iff_eq.2 hd1
              by_cases hroom : (L.length : Int) < mo
              · have hstep : stepL mo L y = L ++ [(L.length : Int) * 8] := by unfold stepL pushL; rw [if_neg hd0, if_pos hd1, if_pos hroom]
                have HST := Lib.hid hstep
                clear hstep hd1
                go_wp2_with fail
                refine (var_room ob 1 pa mo L _ (ab.dr n) hroom).mono ?_
                rintro e w2 ⟨o2, y2, rfl, a2⟩
                have hb2 : Blk o2 9 w2 q _ _ := Blk.keep (w := w1.drewN n) hbx y2 (by decide)
                have b2 := (bb.dr n).keep y2 (by decide)
                go_wp2_with fail
                refine (rvar_room o2 2 pb mo L _ b2 hroom).mono ?_
                rintro e w3 ⟨o3, y3, rfl, b3⟩
                go_wp2_with fail
                go_meet
                rw [HST.out]
                exact ⟨o3, ⟨(XB.trans (y2.mono (by decide))).trans (y3.mono (by decide)), a2.keep y3 (by decide), b3⟩, hb2.keep y3 (by decide)⟩
              · have hfull : Hid ((L.length : Int) = mo) := by have := ab.len; show _ = _; omega
                have hstep : stepL mo L y = L := by unfold stepL pushL; rw [if_neg hd0, if_pos hd1, if_neg hroom]
                have HST := Lib.hid hstep
                clear hstep hd1
                go_wp2_with fail
                refine (var_full ob 1 pa mo L _ (ab.dr n) hfull.out).mono ?_
                rintro e w2 ⟨rfl, n2, rfl⟩
                go_wp2_with fail
                refine (rvar_full ob 2 pb mo L _ (bb.dr _) hfull.out).mono ?_
                rintro e w3 ⟨rfl, n3, rfl⟩
                go_wp2_with fail
                go_meet
                rw [HST.out]
                exact ⟨ob, ⟨xb.drewN _, ab, bb⟩, hbx⟩
            · have t1 : (y.dom == 1) = false := beq_eq_false_iff_ne.2 hd1
              by_cases hd2 : y.dom = 2
              · have t2 : (y.dom == 2) = true := beq_iff_eq.2 hd2
                by_cases hin : inB L y.at_ = true
                · have hstep : stepL mo L y = L.set y.at_.toNat y.c := by unfold stepL setL; rw [if_neg hd0, if_neg hd1, if_pos hd2, if_pos hin]
                  have HST := Lib.hid hstep
                  obtain ⟨g0, g1⟩ := inB_iff.1 hin
                  have hs := set_in ob 1 pa mo y.at_ y.c L _ (ab.dr n) g0 g1
                  rw [hin]
                  clear hstep hd2 hin
                  go_wp2_with fail
                  refine hs.mono ?_
                  rintro e w2 ⟨o2, y2, rfl, a2⟩
                  clear hs
                  have hb2 : Blk o2 9 w2 q _ _ := Blk.keep (w := w1.drewN n) hbx y2 (by decide)
                  have b2 := (bb.dr n).keep y2 (by decide)
                  have f1 := hb2.cell 1 rfl
                  have f2 := hb2.cell 2 rfl
                  obtain ⟨vb2, hbm2, hbr2, _, _⟩ := id b2
                  obtain ⟨gg, cap2, rfl, _⟩ := hbr2.form_pos (by omega)
                  obtain ⟨j, hj⟩ := Int.eq_ofNat_of_zero_le g0
                  have m02 := hbm2.cell 0 rfl
                  have ck := hbr2.cell j (words_get L j (by omega))
                  have fk := hbr2.free j
                  have hjl : (j : Int) < L.length := by omega
                  rw [hj] at f1
                  go_wp2_with fail
                  go_region
                  go_wp2_with fail
                  go_meet
                  obtain ⟨z1, z2⟩ := rset_end (j := j) (c := y.c) hbm2 hbr2 b2.len.1 b2.len.2
                  rw [HST.out, show y.at_.toNat = j by omega]
                  rw [show y.at_.toNat = j by omega] at a2
                  exact ⟨o2, ⟨((XB.trans (y2.mono (by decide))).trans (z1.mono (by decide))).drew, a2.keep z1.drew (by decide), z2⟩, hb2.keep z1.drew (by decide)⟩
                · have hinf : inB L y.at_ = false := by simpa using hin
                  have hstep : stepL mo L y = L := by unfold stepL setL; rw [if_neg hd0, if_neg hd1, if_pos hd2, if_neg hin]
                  have HST := Lib.hid hstep
                  have hs := set_out ob 1 pa mo y.at_ y.c L _ (ab.dr n) (by
                    by_cases g : y.at_ < 0 ∨ (L.length : Int) ≤ y.at_
                    · exact g
                    · rw [inB_true (by omega) (by omega)] at hinf; cases hinf)
                  rw [hinf]
                  clear hstep hd2 hin hinf
                  go_wp2_with fail
                  refine hs.mono ?_
                  rintro e w2 ⟨rfl, n2, rfl⟩
                  go_wp2_with fail
                  go_meet
                  rw [HST.out]
                  exact ⟨ob, ⟨xb.drewN _, ab, bb⟩, hbx⟩
              · have t2 : (y.dom == 2) = false := beq_eq_false_iff_ne.2 hd2
                by_cases hd3 : y.dom = 3
                · have t3 : (y.dom == 3) = true := beq_iff_eq.2 hd3
                  obtain ⟨vb2, hbm2, hbr2, _, _⟩ := id bb
                  obtain ⟨A2, cap2, rfl, hcap2⟩ := hbr2.form
                  have m02 := hbm2.cell 0 rfl
                  have m03 := hbm2.free 0
                  by_cases hcb : 0 ≤ y.at_ ∧ y.at_ ≤ L.length
                  · obtain ⟨g0, g1⟩ := hcb
                    have hcB : cutB L y.at_ = true := by simp [cutB, g0, g1]
                    have hstep : stepL mo L y = L.take y.at_.toNat := by unfold stepL cutL; rw [if_neg hd0, if_neg hd1, if_neg hd2, if_pos hd3, if_pos hcB]
                    have HST := Lib.hid hstep
                    obtain ⟨j, hj⟩ := Int.eq_ofNat_of_zero_le g0
                    have hs := fun a => cut_in ob 1 pa mo y.at_ L (w1.drewN a) (ab.dr a) g0 g1
                    have q1 : decide (0 ≤ y.at_) = true := decide_eq_true g0
                    have q2 : decide (y.at_ ≤ (L.length : Int)) = true := decide_eq_true g1
                    have HS := Lib.hid hs
                    have HJ := Lib.hid hj
                    clear hstep hd3 hcB hs hj
                    go_wp2_with fail
                    go_quiet (fail)
                    go_wp2_with fail
                    refine (HS.out _).mono ?_
                    rintro e w2 ⟨o2, y2, rfl, a2⟩
                    have hb2 : Blk o2 9 w2 q _ _ := Blk.keep (w := w1) hbx y2.ofDrew (by decide)
                    have b2 := bb.keep y2.ofDrew (by decide)
                    have hbm3 := hbm2.keep y2.ofDrew (by decide)
                    have hbr3 := hbr2.keep y2.ofDrew (by decide)
                    have f1 := hb2.cell 1 rfl
                    rw [HJ.out] at f1
                    have m04 := hbm3.cell 0 rfl
                    have m05 := hbm3.free 0
                    have hjl : (j : Int) ≤ L.length := by have := HJ.out; omega
                    have hjc : j ≤ cap2 := by omega
                    clear HS q1 q2
                    go_wp2_with fail
                    go_region
                    go_wp2_with fail
                    go_meet
                    obtain ⟨z1, z2⟩ := rcut_end (j := j) hbm3 hbr3 b2.len.1 b2.len.2 (by omega)
                    have hjj : y.at_.toNat = j := by have := HJ.out; omega
                    rw [HST.out, hjj]
                    rw [hjj] at a2
                    exact ⟨o2, ⟨((xb.trans (y2.ofDrew.mono (by decide))).trans (z1.mono (by decide))).drew, a2.keep z1.drew (by decide), z2⟩, hb2.keep z1.drew (by decide)⟩
                  · have hcB : cutB L y.at_ = false := by
                      unfold cutB
                      by_cases h0 : 0 ≤ y.at_
                      · rw [decide_eq_false (by omega : ¬ y.at_ ≤ (L.length : Int))]; simp
                      · rw [decide_eq_false h0]; rfl
                    have hstep : stepL mo L y = L := by unfold stepL cutL; rw [if_neg hd0, if_neg hd1, if_neg hd2, if_pos hd3, hcB]; rfl
                    have HST := Lib.hid hstep
                    have hs := fun a => cut_out ob 1 pa mo y.at_ L (w1.drewN a) (ab.dr a) (by omega)
                    have HS := Lib.hid hs
                    by_cases g0 : 0 ≤ y.at_
                    · have q1 : decide (0 ≤ y.at_) = true := decide_eq_true g0
                      have q2 : decide (y.at_ ≤ (L.length : Int)) = false := decide_eq_false (by omega)
                      clear hstep hd3 hcB hs hcb
                      go_wp2_with fail
                      go_quiet (fail)
                      go_wp2_with fail
                      refine (HS.out _).mono ?_
                      rintro e w2 ⟨rfl, n2, rfl⟩
                      go_wp2_with fail
                      go_meet
                      rw [HST.out]
                      exact ⟨ob, ⟨xb.drewN _, ab, bb⟩, hbx⟩
                    · have q1 : decide (0 ≤ y.at_) = false := decide_eq_false g0
                      clear hstep hd3 hcB hs hcb
                      go_wp2_with fail
                      go_quiet (fail)
                      go_wp2_with fail
                      refine (HS.out _).mono ?_
                      rintro e w2 ⟨rfl, n2, rfl⟩
                      go_wp2_with fail
                      go_meet
                      rw [HST.out]
                      exact ⟨ob, ⟨xb.drewN _, ab, bb⟩, hbx⟩
                · have t3 : (y.dom == 3) = false := beq_eq_false_iff_ne.2 hd3
                  have hstep : stepL mo L y = L := by unfold stepL; rw [if_neg hd0, if_neg hd1, if_neg hd2, if_neg hd3]
                  have HST := Lib.hid hstep
                  clear hstep
                  go_upto_region 31 with fail
                  go_meet
                  rw [HST.out]
                  exact ⟨ob, ⟨xb.drewN _, ab, bb⟩, hbx⟩
        case rest =>
          obtain ⟨o5, ⟨x5, a5, b5⟩, hb5⟩ := hcut
          have hnn5 := stepL_nonneg (most := mo) hnn r2.1
          clear ab bb hbx xb e0 e1 e2 d0 d1 d2
          generalize stepL mo L y = L5 at *
          obtain ⟨vb5, hbm5, hbr5, _, _⟩ := id b5
          obtain ⟨A5, cap5, rfl, hcap5⟩ := hbr5.form
          have m5 := hbm5.cell 0 rfl
          have f1 := hb5.cell 1 rfl
          have f2 := hb5.cell 2 rfl
          have hlq5 : 0 ≤ (L5.length : Int) := by omega
          have hln5 := fun a => len_any o5 1 pa mo L5 (wc.drewN a) (a5.dr a)
          have hd5 := fun a => deref_any o5 1 pa mo y.c L5 (wc.drewN a) (a5.dr a) r2.1 hnn5
          have he5 := fun a => rderef_any o5 2 pb mo y.c L5 (wc.drewN a) (b5.dr a) r2.1 hnn5
          have HLN := Lib.hid hln5
          have HD := Lib.hid hd5
          have HE := Lib.hid he5
          have HNN := Lib.hid hnn5
          clear hln5 hd5 he5 hnn5
          by_cases hin0 : 0 ≤ y.at_
          · have q1 : decide (0 ≤ y.at_) = true := decide_eq_true hin0
            by_cases hin1 : y.at_ < L5.length
            · have q2 : decide (y.at_ < (L5.length : Int)) = true := decide_eq_true hin1
              have hg := get_in o5 1 pa mo y.at_ L5 wc a5 hin0 hin1
              obtain ⟨gg, rfl⟩ : ∃ g, A5 = some ⟨g, 0, none⟩ := by
                obtain ⟨g, _, hv, _⟩ := hbr5.form_pos (by omega)
                exact ⟨g, (Value.slice.inj hv).1⟩
              have ck := hbr5.cell y.at_.toNat (words_get L5 y.at_.toNat (by omega))
              have HG := Lib.hid hg
              clear hg
              generalize L5.getD y.at_.toNat 0 = t at *
              go_wp2_with fail
              refine HG.out.mono ?_
              rintro e w6 ⟨rfl, n6, rfl⟩
              go_wp2_with fail
              go_quiet (fail)
              go_wp2_with fail
              go_quiet ((first | (go_at_call 53; exact quiet_genQ (HLN.out _) (fun n => by first | exact ⟨n, rfl⟩ | exact ⟨_, World.drewN_drewN _ _ _⟩ | exact ⟨_, (World.drewN_drewN _ _ _).trans (congrArg (World.drewN _) (Nat.add_assoc _ _ _))⟩)) | (go_at_call 56; exact quiet_genQ (HD.out _) (fun n => by first | exact ⟨n, rfl⟩ | exact ⟨_, World.drewN_drewN _ _ _⟩ | exact ⟨_, (World.drewN_drewN _ _ _).trans (congrArg (World.drewN _) (Nat.add_assoc _ _ _))⟩)) | (go_at_call 76; exact quiet_genQ (HE.out _) (fun n => by first | exact ⟨n, rfl⟩ | exact ⟨_, World.drewN_drewN _ _ _⟩ | exact ⟨_, (World.drewN_drewN _ _ _).trans (congrArg (World.drewN _) (Nat.add_assoc _ _ _))⟩))))
              go_wp2_with fail
              go_roundw
              case rel => exact ⟨k + 1, o5, L5, by go_num, by omega, by omega, ⟨x5.drewN _, a5, b5⟩, HNN.out⟩
              case measure => simp [intOf]; omega
            · have q2 : decide (y.at_ < (L5.length : Int)) = false := decide_eq_false hin1
              have hg := get_out o5 1 pa mo y.at_ L5 wc a5 (by omega)
              have HG := Lib.hid hg
              clear hg
              go_wp2_with fail
              refine HG.out.mono ?_
              rintro e w6 ⟨rfl, n6, rfl⟩
              go_wp2_with fail
              go_quiet (fail)
              go_wp2_with fail
              go_quiet ((first | (go_at_call 53; exact quiet_genQ (HLN.out _) (fun n => by first | exact ⟨n, rfl⟩ | exact ⟨_, World.drewN_drewN _ _ _⟩ | exact ⟨_, (World.drewN_drewN _ _ _).trans (congrArg (World.drewN _) (Nat.add_assoc _ _ _))⟩)) | (go_at_call 56; exact quiet_genQ (HD.out _) (fun n => by first | exact ⟨n, rfl⟩ | exact ⟨_, World.drewN_drewN _ _ _⟩ | exact ⟨_, (World.drewN_drewN _ _ _).trans (congrArg (World.drewN _) (Nat.add_assoc _ _ _))⟩)) | (go_at_call 76; exact quiet_genQ (HE.out _) (fun n => by first | exact ⟨n, rfl⟩ | exact ⟨_, World.drewN_drewN _ _ _⟩ | exact ⟨_, (World.drewN_drewN _ _ _).trans (congrArg (World.drewN _) (Nat.add_assoc _ _ _))⟩))))
              go_wp2_with fail
              go_roundw
              case rel => exact ⟨k + 1, o5, L5, by go_num, by omega, by omega, ⟨x5.drewN _, a5, b5⟩, HNN.out⟩
              case measure => simp [intOf]; omega
          · have q1 : decide (0 ≤ y.at_) = false := decide_eq_false hin0
            have hg := get_out o5 1 pa mo y.at_ L5 wc a5 (by omega)
            have HG := Lib.hid hg
            clear hg
            go_wp2_with fail
            refine HG.out.mono ?_
            rintro e w6 ⟨rfl, n6, rfl⟩
            go_wp2_with fail
            go_quiet (fail)
            go_wp2_with fail
            go_quiet ((first | (go_at_call 53; exact quiet_genQ (HLN.out _) (fun n => by first | exact ⟨n, rfl⟩ | exact ⟨_, World.drewN_drewN _ _ _⟩ | exact ⟨_, (World.drewN_drewN _ _ _).trans (congrArg (World.drewN _) (Nat.add_assoc _ _ _))⟩)) | (go_at_call 56; exact quiet_genQ (HD.out _) (fun n => by first | exact ⟨n, rfl⟩ | exact ⟨_, World.drewN_drewN _ _ _⟩ | exact ⟨_, (World.drewN_drewN _ _ _).trans (congrArg (World.drewN _) (Nat.add_assoc _ _ _))⟩)) | (go_at_call 76; exact quiet_genQ (HE.out _) (fun n => by first | exact ⟨n, rfl⟩ | exact ⟨_, World.drewN_drewN _ _ _⟩ | exact ⟨_, (World.drewN_drewN _ _ _).trans (congrArg (World.drewN _) (Nat.add_assoc _ _ _))⟩))))
            go_wp2_with fail
            go_roundw
            case rel => exact ⟨k + 1, o5, L5, by go_num, by omega, by omega, ⟨x5.drewN _, a5, b5⟩, HNN.out⟩
            case measure => simp [intOf]; omega
    · have hdh := deref_any own 1 pa mo c L wr a bc.1 hnn
      have hdr := fun a => rderef_any own 2 pb mo c L (wr.drewN a) (b.dr a) bc.1 hnn
      have HDH := Lib.hid hdh
      have HDR := Lib.hid hdr
      clear hdh hdr
      by_cases hl2 : k < len
      · have h150' : (150 : Int) ≤ k := by omega
        go_wp2_with fail
        refine HDH.out.mono ?_
        rintro e w6 ⟨rfl, n6, rfl⟩
        go_wp2_with fail
        refine (HDR.out _).mono ?_
        rintro e w7 ⟨rfl, n7, rfl⟩
        go_wp2_with (go_at_call 51; refine (awake5_any _).mono ?_; rintro e w' ⟨rfl, hb⟩)
        go_ret
        exact ⟨rfl, (x.belowStep (below_ofDrew hb)).done (by decide)⟩
      · go_wp2_with fail
        refine HDH.out.mono ?_
        rintro e w6 ⟨rfl, n6, rfl⟩
        go_wp2_with fail
        refine (HDR.out _).mono ?_
        rintro e w7 ⟨rfl, n7, rfl⟩
        go_wp2_with (go_at_call 51; refine (awake5_any _).mono ?_; rintro e w' ⟨rfl, hb⟩)
        go_ret
        exact ⟨rfl, (x.belowStep (below_ofDrew hb)).done (by decide)⟩

end Go.Proofs.Ytaahamgjhlnjnaa
