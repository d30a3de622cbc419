/- The walk of the law TrailPlays: any calls on a trail and on the reference's: each answer; each cell. -/
import Derived.Test.YtaahamgjhlnjnaaRTrail2
import Derived.Test.YtaahamgjhlnjnaaTrailLike
import Derived.Test.YtaahamgjhlnjnaaRHeap
import Derived.Outline
import Derived.Deep.RegionWith
import Derived.Deep.RegionHeld3
import Derived.Deep.DeepCutAuto
import Derived.Deep.CutBlock
namespace Go.Proofs.Ytaahamgjhlnjnaa
open Go.RowKit
set_option linter.unusedVariables false

theorem tdrop_le6 (own : Nat → Nat) (id p : Nat) (mark : Int) (L : List (Int × Int)) (w : World) (h : TP own id w p L) (h0 : 0 ≤ mark) (hle : mark ≤ L.length) (hL : L.length < 1000000000) :
    Calls Try.prog 61 #[.pointer (some ⟨p, 0, none⟩), .int .i64 mark] w
      (Does own [id] w fun own' e w' => e = .returned (.int .i64 (L.length - mark)) ∧ TP own' id w' p (L.take mark.toNat)) := by
  by_cases hlt : mark < L.length
  · exact tdrop_in own id p mark L w h h0 hlt hL
  · refine (tdrop_out own id p mark L w h (by omega) (by omega) (by omega) hL).mono fun e w' hq => ?_
    obtain ⟨rfl, n, rfl⟩ := hq
    have e1 : mark.toNat = L.length := by omega
    refine ⟨own, (Ext.refl _ _ _).drewN _, by congr 2; omega, ?_⟩
    rw [e1, List.take_length]; exact h.dr n
theorem rtundo_le (own : Nat → Nat) (idh id ph p : Nat) (most mark : Int) (l : List Int) (L : List (Int × Int)) (w : World) (hh : RH own idh w ph most l) (h : RT own id w p L) (hid : idh ≠ id) (hid9 : idh ≠ 9 ∧ id ≠ 9) (h0 : 0 ≤ mark) (hle : mark ≤ L.length) (hL : L.length < 1000000000) (hpos : ∀ e ∈ L, 0 ≤ e.1) :
    Calls Try.prog 71 #[.pointer (some ⟨p, 0, none⟩), .pointer (some ⟨ph, 0, none⟩), .int .i64 mark] w
      (Does own [idh, id] w fun own' e w' => e = .returned (.int .i64 (L.length - mark)) ∧ RH own' idh w' ph most (undoL l (L.drop mark.toNat).reverse) ∧ RT own' id w' p (L.take mark.toNat)) := by
  by_cases hlt : mark < L.length
  · exact rtundo_in own idh id ph p most mark l L w hh h hid hid9 h0 hlt hL hpos
  · obtain rfl : mark = L.length := by omega
    refine (rtundo_eq own id p (some ⟨ph, 0, none⟩) L w h hL).mono fun e w' hq => ?_
    obtain ⟨own', x, rfl, h2⟩ := hq
    refine ⟨own', x.mono (by simp), by congr 2; omega, ?_, ?_⟩
    · rw [Int.toNat_natCast, List.drop_length]; exact hh.keep x (by simpa using hid)
    · rw [Int.toNat_natCast, List.take_length]; exact h2
theorem rcut_end6b {own : Nat → Nat} {id p cap j : Nat} {A : Option Addr} {most : Int} {l : List Int} {w : World} (hb : Blk own id w p [.slice A l.length cap, .int .i64 most] 106) (hr : Row own id w 24 1 (.slice A l.length cap) l.length (words l))
    (h1 : (l.length : Int) ≤ most) (h2 : most ≤ 1048576) (hj : j ≤ l.length) : Ext own own [id] w (w.setCell ⟨p, 0, none⟩ (.slice A j cap)) ∧ RH own id (w.setCell ⟨p, 0, none⟩ (.slice A j cap)) p most (l.take j) := by
  have hne := hr.ne_blk hb (by decide)
  have hcut := hr.cut (m := j) hj
  refine ⟨(Ext.refl own [id] w).setCell _ _ (fun _ => by show own p ∈ [id]; rw [hb.2]; simp), _, hb.set 0 _, ?_, by simp; omega, h2⟩
  have := hcut.far (p := ⟨p, 0, none⟩) (by cases A with | none => simp [Value.ownBlock] | some a => simpa [Value.ownBlock] using hne) (.slice A j cap)
  rw [Nat.mul_one, words_take] at this
  rw [List.length_take, Nat.min_eq_left hj]
  exact this
/-- Both heaps and both trails. -/
def PS (w : World) (pa pb pc pd : Nat) (wr : World) (own : Nat → Nat) (l : List Int) (L : List (Int × Int)) : Prop :=
  Ext own0 own [1, 2, 3, 4, 9] w wr ∧ HP own 1 wr pa 200 l ∧ RH own 2 wr pb 200 l ∧ TP own 3 wr pc L ∧ RT own 4 wr pd L ∧ ∀ e ∈ L, 0 ≤ e.1
theorem PS.dr {w wr : World} {pa pb pc pd : Nat} {own : Nat → Nat} {l : List Int} {L : List (Int × Int)} (h : PS w pa pb pc pd wr own l L) (n : Nat) : PS w pa pb pc pd (wr.drewN n) own l L := ⟨h.1.drewN n, h.2⟩
theorem kept_pos {l : List Int} {L : List (Int × Int)} (h : ∀ e ∈ L, 0 ≤ e.1) (i : Int) : ∀ e ∈ keptL l L i, 0 ≤ e.1 := by
  unfold keptL
  split
  · rename_i hi
    intro e he
    rcases List.mem_append.1 he with he | he
    · exact h e he
    · simp at he; subst he; exact (inB_iff.1 hi).1
  · exact h
theorem kept_len (l : List Int) (L : List (Int × Int)) (i : Int) : (keptL l L i).length ≤ L.length + 1 := by unfold keptL; split <;> simp
theorem take_pos {L : List (Int × Int)} (h : ∀ e ∈ L, 0 ≤ e.1) (m : Nat) : ∀ e ∈ L.take m, 0 ≤ e.1 := fun e he => h e (List.mem_of_mem_take he)
theorem take_len (L : List (Int × Int)) (m : Nat) : (L.take m).length ≤ L.length + 1 := by rw [List.length_take]; omega

set_option maxHeartbeats 12800000 in
set_option maxRecDepth 100000 in
theorem trailPlays_walk (A : Option Addr) (len cap : Nat) (xs : List GCall) {w : World} (hc : Came RCall 3 w A len cap xs) (_w : World) :
    Calls Try.prog 22 #[.slice A len cap] w fun e w' => e = .returned (.bool true) ∧ Below w.heap.size w w' := by
  have hmax := hc.max
  have hle := hc.le
  unfold maxLen at hmax
  go_enter Try.func22, Try.ntmps22
  go_wp2_with fail
  refine (new_any own0 1 200 _).mono ?_
  rintro e w1 ⟨o1, x1, rfl, hp1, a1⟩
  generalize w.heap.size = pa at *
  go_wp2_with fail
  refine (tnew_any o1 3 _).mono ?_
  rintro e w2 ⟨o2, x2, rfl, hp2, c2⟩
  replace a1 := a1.keep x2 (by decide)
  generalize w1.heap.size = pc at *
  replace x2 := (x1.mono (jds := [1, 2, 3, 4, 9]) (by simp)).trans (x2.mono (by simp))
  clear x1
  go_wp2_with fail
  refine (rnew_any o2 2 200 _).mono ?_
  rintro e w3 ⟨o3, x3, rfl, hp3, b3⟩
  replace a1 := a1.keep x3 (by decide)
  replace c2 := c2.keep x3 (by decide)
  generalize w2.heap.size = pb at *
  replace x3 := x2.trans (x3.mono (by simp))
  clear x2 hp1 hp2 hp3
  go_wp2_with fail
  obtain ⟨x4, k4, z4⟩ := x3.box [.slice none 0 0] 102 4
  have d4 : RT (_root_.Go.Proofs.Ytaahamgjhlnjnaa.give o3 w3.heap.size 4) 4 (w3.alloc (.cells #[.slice none 0 0] 102)) w3.heap.size [] := ⟨_, k4, Row.nil _ _ _ _ _⟩
  have HPS : Hid (PS w pa pb pc w3.heap.size (w3.alloc (.cells #[.slice none 0 0] 102)) (_root_.Go.Proofs.Ytaahamgjhlnjnaa.give o3 w3.heap.size 4) [] []) := ⟨x4, a1.keep z4 (by decide), b3.keep z4 (by decide), c2.keep z4 (by decide), d4, by simp⟩
  clear z4 x3 a1 b3 c2 k4 d4 x4
  generalize _root_.Go.Proofs.Ytaahamgjhlnjnaa.give o3 w3.heap.size 4 = o4 at *
  generalize w3.alloc (.cells #[.slice none 0 0] 102) = w4 at *
  generalize w3.heap.size = pd at *
  go_loopw [7] (fun v wr => ∃ (k : Nat) (own : Nat → Nat) (l : List Int) (L : List (Int × Int)), v = .int .i64 k ∧ k ≤ len ∧ k ≤ 150 ∧ L.length ≤ k ∧ PS w pa pb pc pd wr own l L) (fun v _ => len - (intOf v).toNat)
  case atStart => exact ⟨0, o4, [], [], rfl, by omega, by omega, by simp, HPS.out⟩
  case round =>
    clear HPS
    obtain ⟨k, own, l, L, rfl, hk, hk1, hLk, x, a, b, c, d, hps⟩ := hrel
    by_cases hlt : k < len ∧ k < 150
    · obtain ⟨hlt, h150⟩ := hlt
      have h150' : (k : Int) < 150 := by omega
      obtain ⟨bk, o, rfl⟩ := hc.addr (by omega)
      obtain ⟨y, hy, d0, d1, d2, r0, r1, r2⟩ := hc.call (x.done (by decide)) k hlt
      obtain ⟨xb, hbx, xb0⟩ := x.box [.int .i64 y.dom, .int .i64 y.at_, .int .u64 y.c] 85 9
      replace a := a.keep xb0 (by decide)
      replace b := b.keep xb0 (by decide)
      replace c := c.keep xb0 (by decide)
      replace d := d.keep xb0 (by decide)
      clear xb0 hy x
      have e0 := hbx.cell 0 rfl
      have e1 := hbx.cell 1 rfl
      have e2 := hbx.cell 2 rfl
      go_upto_block 2 with (fail)
      generalize wr.alloc (.cells #[.int .i64 y.dom, .int .i64 y.at_, .int .u64 y.c] 85) = w1 at *
      generalize _root_.Go.Proofs.Ytaahamgjhlnjnaa.give own wr.heap.size 9 = ob at *
      generalize wr.heap.size = q at *
      clear d0 d1 d2
      go_cut [] (fun wc => ∃ own' l' L', PS w pa pb pc pd wc own' l' L' ∧ L'.length ≤ k + 1 ∧ Blk own' 9 wc q [.int .i64 y.dom, .int .i64 y.at_, .int .u64 y.c] 85)
      case first =>
        by_cases hd0 : y.dom = 0
        · have t0 : (y.dom == 0) = true := beq_iff_eq.2 hd0
          have hset := fun W (hA : HP ob 1 W pa 200 l) (hC : TP ob 3 W pc L) => tset_any ob 1 3 pa pc 200 y.at_ y.c l L W hA hC (by decide) (by omega)
          have hrset := fun o W (hB : RH o 2 W pb 200 l) (hD : RT o 4 W pd L) => rtset_any o 2 4 pb pd 200 y.at_ y.c l L W hB hD (by decide) (by omega)
          have hkp := kept_pos (l := l) hps y.at_
          have hkl := kept_len l L y.at_
          generalize inB l y.at_ = b0 at *
          generalize setL l y.at_ y.c = l5 at *
          generalize keptL l L y.at_ = L5 at *
          have HS := Lib.hid hset
          have HR := Lib.hid hrset
          have HKP := Lib.hid hkp
          have HKL := Lib.hid hkl
          clear hset hrset hkp hkl hd0
          go_wp2_with fail
          go_region_held3 (fun w' => w'.cell? ⟨q, 1, none⟩ = some (.int .i64 y.at_) ∧ w'.cell? ⟨q, 2, none⟩ = some (.int .u64 y.c)) (first | exact ⟨k13, k23⟩ | exact ⟨k1, k2⟩ | exact ⟨e1, e2⟩ | go_keep)
            ((first | (go_at_call 57; refine (HS.out _ (by exact a) (by exact c)).mono ?_; rintro e w2 ⟨own2, x2, rfl, a2, c2⟩; have y2 : Ext ob own2 [1, 3] w1 w2 := (by first | exact x2 | exact x2.ofDrew1 | exact x2.ofDrew); have hb2 := hbx.keep y2 (by decide); have k1 := hb2.cell 1 rfl; have k2 := hb2.cell 2 rfl; have b2 := b.keep y2 (by decide); have d2 := d.keep y2 (by decide)) | (go_at_call 70; refine (HR.out own2 _ (by exact b2) (by exact d2)).mono ?_; rintro e w3 ⟨own3, x3, rfl, b3, d3⟩; have y3 : Ext own2 own3 [2, 4] w2 w3 := (by first | exact x3 | exact x3.ofDrew1 | exact x3.ofDrew); have hb3 := hb2.keep y3 (by decide); have k13 := hb3.cell 1 rfl; have k23 := hb3.cell 2 rfl)))
          all_goals
            go_wp2_with fail
            go_meet
            exact ⟨own3, l5, L5, ⟨(xb.trans (y2.mono (by simp))).trans (y3.mono (by simp)), a2.keep y3 (by decide), b3, c2.keep y3 (by decide), d3, HKP.out⟩, by have := HKL.out; omega, hb2.keep y3 (by decide)⟩
        · have t0 : (y.dom == 0) = false := beq_eq_false_iff_ne.2 hd0
          by_cases hd1 : y.dom = 1
          · have t1 : (y.dom == 1) = true := beq_iff_eq.2 hd1
            have hd1' : True := trivial
            by_cases hm : 0 ≤ y.at_ ∧ y.at_ ≤ L.length
            · have hu := fun W (hA : HP ob 1 W pa 200 l) (hC : TP ob 3 W pc L) => tundo_le ob 1 3 pa pc 200 y.at_ l L W hA hC (by decide) hm.1 hm.2 (by omega)
              have hru := fun o W (hB : RH o 2 W pb 200 l) (hD : RT o 4 W pd L) => rtundo_le o 2 4 pb pd 200 y.at_ l L W hB hD (by decide) (by decide) hm.1 hm.2 (by omega) hps
              have hkp := take_pos hps y.at_.toNat
              have hkl := take_len L y.at_.toNat
              generalize undoL l (L.drop y.at_.toNat).reverse = l5 at *
              generalize L.take y.at_.toNat = L5 at *
              generalize ((L.length : Int) - y.at_) = n5 at *
              have HS := Lib.hid hu
              have HR := Lib.hid hru
              have HKP := Lib.hid hkp
              have HKL := Lib.hid hkl
              clear hu hru hkp hkl hm hd1
              go_wp2_with fail
              go_region_held3 (fun w' => w'.cell? ⟨q, 1, none⟩ = some (.int .i64 y.at_) ∧ w'.cell? ⟨q, 2, none⟩ = some (.int .u64 y.c)) (first | exact ⟨k13, k23⟩ | exact ⟨k1, k2⟩ | exact ⟨e1, e2⟩ | go_keep)
                ((first | (go_at_call 59; refine (HS.out _ (by exact a) (by exact c)).mono ?_; rintro e w2 ⟨own2, x2, rfl, a2, c2⟩; have y2 : Ext ob own2 [1, 3] w1 w2 := (by first | exact x2 | exact x2.ofDrew1 | exact x2.ofDrew); have hb2 := hbx.keep y2 (by decide); have k1 := hb2.cell 1 rfl; have k2 := hb2.cell 2 rfl; have b2 := b.keep y2 (by decide); have d2 := d.keep y2 (by decide)) | (go_at_call 71; refine (HR.out own2 _ (by exact b2) (by exact d2)).mono ?_; rintro e w3 ⟨own3, x3, rfl, b3, d3⟩; have y3 : Ext own2 own3 [2, 4] w2 w3 := (by first | exact x3 | exact x3.ofDrew1 | exact x3.ofDrew); have hb3 := hb2.keep y3 (by decide); have k13 := hb3.cell 1 rfl; have k23 := hb3.cell 2 rfl)))
              all_goals
                go_wp2_with fail
                go_meet
                exact ⟨own3, l5, L5, ⟨(xb.trans (y2.mono (by simp))).trans (y3.mono (by simp)), a2.keep y3 (by decide), b3, c2.keep y3 (by decide), d3, HKP.out⟩, by have := HKL.out; omega, hb2.keep y3 (by decide)⟩
            · have hu := fun n => tundo_out ob 3 pc (some ⟨pa, 0, none⟩) y.at_ L (w1.drewN n) (c.dr n) (by omega) r1.1 r1.2 (by omega)
              have hru := fun n => rtundo_out ob 4 pd (some ⟨pb, 0, none⟩) y.at_ L (w1.drewN n) (d.dr n) (by omega)
              have HS := Lib.hid hu
              have HR := Lib.hid hru
              clear hu hru hm hd1
              go_wp2_with fail
              go_quiet ((first | (go_at_call 59; exact quietT (HS.out _) (fun n => by first | exact ⟨n, rfl⟩ | exact ⟨_, World.drewN_drewN _ _ _⟩ | exact ⟨_, (World.drewN_drewN _ _ _).trans (congrArg (World.drewN _) (Nat.add_assoc _ _ _))⟩)) | (go_at_call 71; exact quietT (HR.out _) (fun n => by first | exact ⟨n, rfl⟩ | exact ⟨_, World.drewN_drewN _ _ _⟩ | exact ⟨_, (World.drewN_drewN _ _ _).trans (congrArg (World.drewN _) (Nat.add_assoc _ _ _))⟩))))
              go_wp2_with fail
              go_meet
              exact ⟨ob, l, L, ⟨xb.drewN _, a, b, c, d, hps⟩, by omega, hbx⟩
          · have t1 : (y.dom == 1) = false := beq_eq_false_iff_ne.2 hd1
            by_cases hd2 : y.dom = 2
            · have t2 : (y.dom == 2) = true := beq_iff_eq.2 hd2
              generalize y.at_ = at_ at *
              obtain ⟨vt, hbt, hrt⟩ := _root_.id d
              obtain ⟨At, capt, rfl, hct⟩ := hrt.form
              have g0 := hbt.cell 0 rfl
              have g1 := hbt.free 0
              have hLq : (0 : Int) ≤ L.length := by omega
              by_cases hm : 0 ≤ at_ ∧ at_ ≤ L.length
              · obtain ⟨z, rfl⟩ := Int.eq_ofNat_of_zero_le hm.1
                have hzl : z ≤ L.length := by omega
                have hzc : z ≤ capt := by omega
                obtain ⟨z1, z2⟩ := rcut_end6 (j := z) hbt hrt hzl
                have c6 := c.keep z1 (by decide)
                have a6 := a.keep z1 (by decide)
                have b6 := b.keep z1 (by decide)
                have hb6 := hbx.keep z1 (by decide)
                have k1 := hb6.cell 1 rfl
                have x6 := xb.trans (z1.mono (by simp))
                have hu := fun W (hC : TP ob 3 W pc L) => tdrop_le6 ob 3 pc (z : Int) L W hC (by omega) (by omega) (by omega)
                rw [Int.toNat_natCast] at hu
                have hkp := take_pos hps z
                have hkl := take_len L z
                have q1 : decide ((0 : Int) ≤ (z : Int)) = true := decide_eq_true (by omega)
                have q2 : decide ((z : Int) ≤ (L.length : Int)) = true := decide_eq_true (by omega)
                have q3 : IntKind.i64.wrap ((L.length : Int) - z) = (L.length : Int) - z := by rw [IntKind.wrap_i64]; omega
                generalize L.take z = L5 at *
                have HS := Lib.hid hu
                have HKP := Lib.hid hkp
                have HKL := Lib.hid hkl
                have HZ6 := Lib.hid z2
                clear hu hkp hkl hd2 hm hbt hrt z1 z2
                go_wp2_with fail
                go_quiet (fail)
                go_wp2_with fail
                go_quiet (fail)
                go_wp2_with fail
                go_region
                go_wp2_with fail
                refine (HS.out _ (by exact c6)).mono ?_
                rintro e w2 ⟨own2, x2, rfl, c2⟩
                have y2 : Ext ob own2 [3] (w1.setCell ⟨pd, 0, none⟩ (.slice At z capt)) w2 := by first | exact x2 | exact x2.ofDrew1 | exact x2.ofDrew | exact x2.ofDrew.ofDrew1 | exact x2.ofDrew1.ofDrew
                go_wp2_with fail
                go_meet
                exact ⟨own2, l, L5, ⟨x6.trans (y2.mono (by simp)), a6.keep y2 (by decide), b6.keep y2 (by decide), c2, RT.keep HZ6.out y2 (by decide), HKP.out⟩, by have := HKL.out; omega, hb6.keep y2 (by decide)⟩
              · have hdo := fun n => tdrop_out ob 3 pc at_ L (w1.drewN n) (c.dr n) (by omega) r1.1 r1.2 (by omega)
                have HS := Lib.hid hdo
                by_cases h0 : 0 ≤ at_
                · have q1 : decide (0 ≤ at_) = true := decide_eq_true h0
                  have q2 : decide (at_ ≤ (L.length : Int)) = false := decide_eq_false (by omega)
                  clear hdo hd2 hm hbt hrt
                  go_wp2_with fail
                  go_quiet (fail)
                  go_wp2_with fail
                  refine (HS.out _).mono ?_
                  rintro e w2 ⟨rfl, n2, rfl⟩
                  go_wp2_with fail
                  go_meet
                  exact ⟨ob, l, L, ⟨xb.drewN _, a, b, c, d, hps⟩, by omega, hbx⟩
                · have q1 : decide (0 ≤ at_) = false := decide_eq_false h0
                  clear hdo hd2 hm hbt hrt
                  go_wp2_with fail
                  go_quiet (fail)
                  go_wp2_with fail
                  refine (HS.out _).mono ?_
                  rintro e w2 ⟨rfl, n2, rfl⟩
                  go_wp2_with fail
                  go_meet
                  exact ⟨ob, l, L, ⟨xb.drewN _, a, b, c, d, hps⟩, by omega, hbx⟩
            · have t2 : (y.dom == 2) = false := beq_eq_false_iff_ne.2 hd2
              by_cases hd3 : y.dom = 3
              · have t3 : (y.dom == 3) = true := beq_iff_eq.2 hd3
                have hpu := fun W (hA : HP ob 1 W pa 200 l) => push_any ob 1 pa 200 y.c l W hA
                have hrpu := fun o W (hB : RH o 2 W pb 200 l) => rpush_any o 2 pb 200 y.c l W hB
                generalize pushV 200 l = v5 at *
                generalize pushL 200 l y.c = l5 at *
                have HS := Lib.hid hpu
                have HR := Lib.hid hrpu
                clear hpu hrpu hd3
                go_wp2_with fail
                refine (HS.out _ a).mono ?_
                rintro e w2 ⟨own2, y2, rfl, a2⟩
                have hb2 := hbx.keep y2 (by decide)
                have k2 := hb2.cell 2 rfl
                have b2 := b.keep y2 (by decide)
                go_wp2_with fail
                refine (HR.out _ _ b2).mono ?_
                rintro e w3 ⟨own3, y3, rfl, b3⟩
                go_wp2_with fail
                go_meet
                exact ⟨own3, l5, L, ⟨(xb.trans (y2.mono (by simp))).trans (y3.mono (by simp)), a2.keep y3 (by decide), b3, (c.keep y2 (by decide)).keep y3 (by decide), (d.keep y2 (by decide)).keep y3 (by decide), hps⟩, by omega, hb2.keep y3 (by decide)⟩
              · have t3 : (y.dom == 3) = false := beq_eq_false_iff_ne.2 hd3
                generalize y.at_ = at_ at *
                obtain ⟨vh, hbh, hrh, m1, m2⟩ := _root_.id b
                obtain ⟨Ah, caph, rfl, hch⟩ := hrh.form
                have g0 := hbh.cell 0 rfl
                have hLq : (0 : Int) ≤ l.length := by omega
                by_cases hm : 0 ≤ at_ ∧ at_ ≤ l.length
                · obtain ⟨z, rfl⟩ := Int.eq_ofNat_of_zero_le hm.1
                  have hzl : z ≤ l.length := by omega
                  have hzc : z ≤ caph := by omega
                  have hcu := fun W (hA : HP ob 1 W pa 200 l) => cut_in ob 1 pa 200 (z : Int) l W hA (by omega) (by omega)
                  rw [Int.toNat_natCast] at hcu
                  have q1 : decide ((0 : Int) ≤ (z : Int)) = true := decide_eq_true (by omega)
                  have q2 : decide ((z : Int) ≤ (l.length : Int)) = true := decide_eq_true (by omega)
                  have HS := Lib.hid hcu
                  have HZ := Lib.hid hzl
                  clear hcu hm hzl
                  go_wp2_with fail
                  go_quiet (fail)
                  go_wp2_with fail
                  refine (HS.out _ (by exact a)).mono ?_
                  rintro e w2 ⟨own2, x2, rfl, a2⟩
                  have y2 : Ext ob own2 [1] w1 w2 := by first | exact x2 | exact x2.ofDrew1 | exact x2.ofDrew
                  have hb2 := hbx.keep y2 (by decide)
                  have k1 := hb2.cell 1 rfl
                  have hbh2 := hbh.keep y2 (by decide)
                  have hrh2 := hrh.keep y2 (by decide)
                  have c2 := c.keep y2 (by decide)
                  have d2 := d.keep y2 (by decide)
                  have f0 := hbh2.cell 0 rfl
                  have f1 := hbh2.free 0
                  obtain ⟨z1, z2⟩ := rcut_end6b (j := z) hbh2 hrh2 m1 m2 HZ.out
                  have x6 := (xb.trans (y2.mono (by simp))).trans (z1.mono (by simp))
                  have a6 := a2.keep z1 (by decide)
                  have c6 := c2.keep z1 (by decide)
                  have d6 := d2.keep z1 (by decide)
                  have hb6 := hb2.keep z1 (by decide)
                  clear x2 y2 z1 hbh hrh hbh2 hrh2 g0
                  generalize l.take z = l5 at *
                  go_wp2_with fail
                  go_region
                  go_wp2_with fail
                  go_meet
                  exact ⟨own2, l5, L, ⟨by first | exact x6 | exact x6.drew | exact x6.drewN _, a6, z2, c6, d6, hps⟩, by omega, hb6⟩
                · by_cases h0 : 0 ≤ at_
                  · have q1 : decide (0 ≤ at_) = true := decide_eq_true h0
                    have q2 : decide (at_ ≤ (l.length : Int)) = false := decide_eq_false (by omega)
                    clear hm hbh hrh
                    go_wp2_with fail
                    go_quiet (fail)
                    go_wp2_with fail
                    go_meet
                    exact ⟨ob, l, L, ⟨xb.drewN _, a, b, c, d, hps⟩, by omega, hbx⟩
                  · have q1 : decide (0 ≤ at_) = false := decide_eq_false h0
                    clear hm hbh hrh
                    go_wp2_with fail
                    go_quiet (fail)
                    go_wp2_with fail
                    go_meet
                    exact ⟨ob, l, L, ⟨xb.drewN _, a, b, c, d, hps⟩, by omega, hbx⟩
      case rest =>
        obtain ⟨o5, l5, L5, ⟨x5, a5, b5, c5, d5, hp5⟩, hL5, hb5⟩ := hcut
        clear a b c d hbx xb e0 e1 e2 hps
        obtain ⟨vt, hbt, hrt⟩ := _root_.id d5
        obtain ⟨At, capt, rfl, hct⟩ := hrt.form
        have g0 := hbt.cell 0 rfl
        have hln := fun n => tlen_any o5 3 pc L5 (wc.drewN n) (c5.dr n)
        have hmk := fun n => tmark_any o5 3 pc L5 (wc.drewN n) (c5.dr n)
        have HLN := Lib.hid hln
        have HMK := Lib.hid hmk
        clear hln hmk hbt hrt hct
        go_wp2_with fail
        go_quiet ((first | (go_at_call 60; exact quietT (HLN.out _) (fun n => by first | exact ⟨n, rfl⟩ | exact ⟨_, World.drewN_drewN _ _ _⟩ | exact ⟨_, (World.drewN_drewN _ _ _).trans (congrArg (World.drewN _) (Nat.add_assoc _ _ _))⟩)) | (go_at_call 58; exact quietT (HMK.out _) (fun n => by first | exact ⟨n, rfl⟩ | exact ⟨_, World.drewN_drewN _ _ _⟩ | exact ⟨_, (World.drewN_drewN _ _ _).trans (congrArg (World.drewN _) (Nat.add_assoc _ _ _))⟩))))
        go_wp2_with fail
        go_roundw
        case rel => exact ⟨k + 1, o5, l5, L5, by go_num, by omega, by omega, hL5, x5.drewN _, a5, b5, c5, d5, hp5⟩
        case measure => simp [intOf]; omega
    · have hlk := like_true own 1 2 pa pb 200 200 l wr a b
      by_cases hl2 : k < len
      · have h150' : (150 : Int) ≤ k := by omega
        go_wp2_with (first | (go_at_call 73; refine hlk.mono ?_; rintro e w' ⟨rfl, n1, rfl⟩) | (go_at_call 62; refine (awake6_any _).mono ?_; rintro e w' ⟨rfl, hb⟩))
        go_ret
        exact ⟨rfl, (x.belowStep (below_ofDrew hb)).done (by decide)⟩
      · go_wp2_with (first | (go_at_call 73; refine hlk.mono ?_; rintro e w' ⟨rfl, n1, rfl⟩) | (go_at_call 62; refine (awake6_any _).mono ?_; rintro e w' ⟨rfl, hb⟩))
        go_ret
        exact ⟨rfl, (x.belowStep (below_ofDrew hb)).done (by decide)⟩

end Go.Proofs.Ytaahamgjhlnjnaa
