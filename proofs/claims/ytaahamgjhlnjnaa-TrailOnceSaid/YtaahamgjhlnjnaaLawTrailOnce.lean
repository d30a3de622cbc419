/- The walk of the law TrailOnce: undone to its own mark nothing changes; undone in two parts it is as undone at once. -/
import Derived.Test.YtaahamgjhlnjnaaTrailGo
namespace Go.Proofs.Ytaahamgjhlnjnaa
open Go.RowKit
set_option linter.unusedVariables false

set_option maxHeartbeats 6400000 in
set_option maxRecDepth 100000 in
theorem trailOnce_walk (A : Option Addr) (len cap : Nat) (xs : List Int) {w : World} (hc : Came RWord 1 w A len cap xs) (A' : Option Addr) (len' cap' : Nat) (ys : List GCall) (hd : Came RCall 3 w A' len' cap' ys) (at_ : Int) (wa : (Lit.int .i64 at_).wf = true) (_w : World) :
    Calls Try.prog 19 #[.slice A len cap, .slice A' len' cap', .int .i64 at_] w fun e w' => e = .returned (.bool true) ∧ Below w.heap.size w w' := by
  have hmax := hc.max
  have hle := hc.le
  have hmax' := hd.max
  have hle' := hd.le
  unfold maxLen at hmax hmax'
  have hlen := hc.length
  have HLN := Lib.hid hlen
  have hlen' := hd.length
  have HLN' := Lib.hid hlen'
  clear hlen hlen' wa
  go_enter Try.func19, Try.ntmps19
  go_wp2_with fail
  refine (new_any own0 1 60 _).mono ?_
  rintro e w1 ⟨o1, x1, rfl, hp1, a1⟩
  generalize w.heap.size = pa at *
  go_wp2_with fail
  refine (new_any o1 2 60 _).mono ?_
  rintro e w2 ⟨o2, x2, rfl, hp2, b2⟩
  generalize w1.heap.size = pb at *
  replace a1 := a1.keep x2 (by decide)
  go_wp2_with fail
  refine (tnew_any o2 3 _).mono ?_
  rintro e w3 ⟨o3, x3, rfl, hp3, c3⟩
  generalize w2.heap.size = pc at *
  replace a1 := a1.keep x3 (by decide)
  replace b2 := b2.keep x3 (by decide)
  go_wp2_with fail
  refine (tnew_any o3 4 _).mono ?_
  rintro e w4 ⟨o4, x4, rfl, hp4, d4⟩
  generalize w3.heap.size = pd at *
  replace a1 := a1.keep x4 (by decide)
  replace b2 := b2.keep x4 (by decide)
  replace c3 := c3.keep x4 (by decide)
  have x5 := (((x1.mono (jds := [1, 2, 3, 4]) (by simp)).trans (x2.mono (by simp))).trans (x3.mono (by simp))).trans (x4.mono (by simp))
  clear x1 x2 x3 x4 hp1 hp2 hp3 hp4
  go_wp2_with fail
  go_loopw [27] (fun v wr => ∃ (k : Nat) (own : Nat → Nat), v = .int .i64 k ∧ k ≤ len ∧ Ext own0 own [1, 2, 3, 4] w wr ∧ HP own 1 wr pa 60 ((xs.take 30).take k) ∧ HP own 2 wr pb 60 ((xs.take 30).take k) ∧ TP own 3 wr pc [] ∧ TP own 4 wr pd []) (fun v _ => len - (intOf v).toNat)
  case atStart => exact ⟨0, o4, rfl, by omega, x5, a1, b2, c3, d4⟩
  case round =>
    obtain ⟨k, own, rfl, hk, x, a, b, c, d⟩ := hrel
    clear a1 b2 c3 d4 x5
    by_cases hlt : k < len
    · obtain ⟨bb, oo, rfl⟩ := hc.addr (by omega)
      have ck := hc.word (x.done (by decide)) k hlt
      by_cases h30 : k < 30
      · have h30' : ((k : Int) < 30) := by omega
        have hpa := push_room own 1 pa 60 (xs.getD k 0) ((xs.take 30).take k) wr a (by have := List.length_take_le' k (xs.take 30); have := List.length_take_le 30 xs; have h1 := List.length_take_le k (xs.take 30); omega)
        have hpb := fun own2 w2 (hh : HP own2 2 w2 pb 60 ((xs.take 30).take k)) => push_room own2 2 pb 60 (xs.getD k 0) ((xs.take 30).take k) w2 hh (by have := List.length_take_le' k (xs.take 30); have := List.length_take_le 30 xs; have h1 := List.length_take_le k (xs.take 30); omega)
        have hn : (xs.take 30).take k ++ [xs.getD k 0] = (xs.take 30).take (k + 1) := by
          rw [take_succ_getD (xs.take 30) k (by rw [List.length_take, HLN.out]; omega)]
          congr 2
          simp [List.getD, h30]
        rw [hn] at hpa hpb
        have HPB := Lib.hid hpb
        clear hn hpb
        go_wp2_with fail
        refine hpa.mono ?_
        rintro e w2 ⟨own2, x2, rfl, a2⟩
        have b2 := b.keep x2 (by decide)
        go_wp2_with fail
        refine (HPB.out _ _ b2).mono ?_
        rintro e w3 ⟨own3, x3, rfl, b3⟩
        go_wp2_with fail
        go_roundw
        case rel => exact ⟨k + 1, own3, by go_num, by omega, (x.trans (x2.mono (by simp))).trans (x3.mono (by simp)), a2.keep x3 (by decide), b3, (c.keep x2 (by decide)).keep x3 (by decide), (d.keep x2 (by decide)).keep x3 (by decide)⟩
        case measure => simp [intOf]; omega
      · have h30' : ((30 : Int) ≤ k) := by omega
        have hn : (xs.take 30).take k = (xs.take 30).take (k + 1) := by
          rw [take_stay _ _ _ (by omega), take_stay _ _ _ (by omega)]
        rw [hn] at a b
        go_wp2_with fail
        go_roundw
        case rel => exact ⟨k + 1, own, by go_num, by omega, x, a, b, c, d⟩
        case measure => simp [intOf]; omega
    · obtain rfl : k = len := by omega
      clear hlt hk hc
      generalize (xs.take 30).take k = l0 at *
      go_wp2_with fail
      have hl30 : (ys.take 30).length ≤ 30 := by rw [List.length_take]; omega
      have hL := fun j => tgo_length ((ys.take 30).take j) (l0, [])
      have HL := Lib.hid hL
      clear hL
      have h1000 : ∀ j, (tgo (l0, []) ((ys.take 30).take j)).2.length < 1000000000 := fun j => by
        have h1 := (HL.out j).2.2
        have h2 : ((ys.take 30).take j).length ≤ 30 := Nat.le_trans (List.length_take_le' _ _) hl30
        have h3 : (l0, ([] : List (Int × Int))).2.length = 0 := rfl
        omega
      have H1000 := Lib.hid h1000
      clear h1000 hl30
      go_loopw [43] (fun v wr => ∃ (j : Nat) (own2 : Nat → Nat), v = .int .i64 j ∧ j ≤ len' ∧ Ext own0 own2 [1, 2, 3, 4] w wr ∧ HP own2 1 wr pa 60 (tgo (l0, []) ((ys.take 30).take j)).1 ∧ HP own2 2 wr pb 60 (tgo (l0, []) ((ys.take 30).take j)).1 ∧
        TP own2 3 wr pc (tgo (l0, []) ((ys.take 30).take j)).2 ∧ TP own2 4 wr pd (tgo (l0, []) ((ys.take 30).take j)).2) (fun v _ => len' - (intOf v).toNat)
      case atStart => exact ⟨0, own, rfl, by omega, x, a, b, c, d⟩
      case round =>
        obtain ⟨j, own2, rfl, hj, x2, a2, b2, c2, d2⟩ := hrel
        clear x a b c d
        by_cases hlt : j < len'
        · obtain ⟨bb, oo, rfl⟩ := hd.addr (by omega)
          obtain ⟨y, hy, e0, e1, e2, r0, r1, r2⟩ := hd.call (x2.done (by decide)) j hlt
          by_cases h30 : j < 30
          · have h30' : ((j : Int) < 30) := by omega
            have hn := tgo_succ (l0, []) (ys.take 30) j y (by rw [List.getElem?_take_of_lt h30]; exact hy)
            have HN := Lib.hid hn
            have h9 := H1000.out j
            clear hn hy
            generalize tgo (l0, []) ((ys.take 30).take j) = s at *
            obtain ⟨l1, L1⟩ := s
            obtain ⟨xb, hbx, xb0⟩ := x2.box [.int .i64 y.dom, .int .i64 y.at_, .int .u64 y.c] 85 9
            have ab := a2.keep xb0 (by decide)
            have bb := b2.keep xb0 (by decide)
            have cb := c2.keep xb0 (by decide)
            have db := d2.keep xb0 (by decide)
            clear xb0 a2 b2 c2 d2 x2
            generalize _root_.Go.Proofs.Ytaahamgjhlnjnaa.give own2 wr.heap.size 9 = ob at *
            go_wp2_with fail
            refine (tset_any ob 1 3 pa pc 60 y.at_ y.c l1 L1 _ ab cb (by decide) h9).mono ?_
            rintro e w3 ⟨own3, x3, rfl, a3, c3⟩
            have b3 := bb.keep x3 (by decide)
            have d3 := db.keep x3 (by decide)
            have hb3 := hbx.keep x3 (by decide)
            have f1 := hb3.cell 1 rfl
            have f2 := hb3.cell 2 rfl
            have z3 := xb.trans (x3.mono (jds := [1, 2, 3, 4]) (by simp))
            go_wp2_with fail
            refine (tset_any own3 2 4 pb pd 60 y.at_ y.c l1 L1 _ b3 d3 (by decide) h9).mono ?_
            rintro e w4 ⟨own4, x4, rfl, b4, d4⟩
            go_wp2_with fail
            go_roundw
            case rel => exact ⟨j + 1, own4, by go_num, by omega, z3.trans (x4.mono (by simp)), by rw [HN.out]; exact a3.keep x4 (by decide), by rw [HN.out]; exact b4, by rw [HN.out]; exact c3.keep x4 (by decide), by rw [HN.out]; exact d4⟩
            case measure => simp [intOf]; omega
          · have h30' : ((30 : Int) ≤ j) := by omega
            have hn : (ys.take 30).take j = (ys.take 30).take (j + 1) := by
              rw [take_stay _ _ _ (by omega), take_stay _ _ _ (by omega)]
            rw [hn] at a2 b2 c2 d2
            go_wp2_with fail
            go_roundw
            case rel => exact ⟨j + 1, own2, by go_num, by omega, x2.alloc _, a2.alloc _, b2.alloc _, c2.alloc _, d2.alloc _⟩
            case measure => simp [intOf]; omega
        · obtain rfl : j = len' := by omega
          have h9 := (HL.out j).2.2
          have h8 : ((ys.take 30).take j).length ≤ 30 := Nat.le_trans (List.length_take_le' _ _) (by rw [List.length_take]; omega)
          have h7 : (l0, ([] : List (Int × Int))).2.length = 0 := rfl
          have h6 : (tgo (l0, []) ((ys.take 30).take j)).2.length ≤ 30 := by omega
          clear h7 h8 h9 HL H1000 hlt hj hd
          generalize tgo (l0, []) ((ys.take 30).take j) = s at *
          obtain ⟨l, L⟩ := s
          obtain ⟨n, hn⟩ : ∃ n, L.length = n := ⟨_, rfl⟩
          replace h6 : n ≤ 30 := by rw [← hn]; exact h6
          replace a2 : HP own2 1 wr pa 60 l := a2
          replace b2 : HP own2 2 wr pb 60 l := b2
          replace c2 : TP own2 3 wr pc L := c2
          replace d2 : TP own2 4 wr pd L := d2
          obtain ⟨m, hm, hmk⟩ := mod_nat at_ ((n : Int) + 1) (by omega) (by omega)
          have t1 := fun a => tmark_any own2 3 pc L (wr.drewN a) (c2.dr a)
          have t2 := fun a => tlen_any own2 3 pc L (wr.drewN a) (c2.dr a)
          have t3 := fun a => tlen_any own2 4 pd L (wr.drewN a) (d2.dr a)
          have t4 := fun a => tundo_out own2 3 pc (some ⟨pa, 0, none⟩) n L (wr.drewN a) (c2.dr a) (by omega) (by omega) (by omega) (by omega)
          rw [hn] at t1 t2 t3
          have u1 := fun a => tundo_le own2 1 3 pa pc 60 m l L (wr.drewN a) (a2.dr a) (c2.dr a) (by decide) (by omega) (by omega) (by omega)
          have htl : (L.take m).length = m := by rw [List.length_take]; omega
          have u2 := fun o W (hA : HP o 1 W pa 60 (undoL l (L.drop m).reverse)) (hC : TP o 3 W pc (L.take m)) => tundo_le o 1 3 pa pc 60 0 _ _ W hA hC (by decide) (by omega) (by omega) (by omega)
          have u3 := fun o W (hA : HP o 2 W pb 60 l) (hC : TP o 4 W pd L) => tundo_le o 2 4 pb pd 60 0 _ _ W hA hC (by decide) (by omega) (by omega) (by omega)
          rw [Int.toNat_natCast, hn] at u1
          simp only [Int.toNat_zero, List.drop_zero, htl, undo_parts, Int.sub_zero, hn] at u2 u3
          have hlz : (undoL l L.reverse).length = l.length := undoL_length _ _
          obtain ⟨r, hr⟩ : ∃ r : Nat, (n : Int) - m = r := ⟨n - m, by omega⟩
          rw [hr] at u1
          have hrn : r ≤ 30 := by omega
          have hs : ((r : Int) + m) = n := by omega
          have T1 := Lib.hid t1
          have T2 := Lib.hid t2
          have T3 := Lib.hid t3
          have T4 := Lib.hid t4
          have U1 := Lib.hid u1
          have U2 := Lib.hid u2
          have U3 := Lib.hid u3
          have HM := Lib.hid hm
          clear t1 t2 t3 t4 u1 u2 u3 hm htl hr hn
          go_wp2_with fail
          refine (T1.out 0).mono ?_
          rintro e w' ⟨rfl, q1, rfl⟩
          go_wp2_with fail
          refine (T4.out _).mono ?_
          rintro e w' ⟨rfl, q2, rfl⟩
          go_wp2_with fail
          refine (T2.out _).mono ?_
          rintro e w' ⟨rfl, q3, rfl⟩
          go_wp2_with fail
          refine (T3.out _).mono ?_
          rintro e w' ⟨rfl, q4, rfl⟩
          go_wp2_with fail
          rw [HM.out]
          clear HM
          refine (U1.out _).mono ?_
          rintro e w' ⟨o5, y5, rfl, a5, c5⟩
          replace y5 : Ext own2 o5 [1, 3] wr w' := y5.ofDrew
          have b5 := b2.keep y5 (by decide)
          have d5 := d2.keep y5 (by decide)
          replace y5 := x2.trans (y5.mono (by simp))
          clear a2 b2 c2 d2 x2 T1 T2 T3 T4
          go_wp2_with fail
          refine (U2.out _ _ a5 c5).mono ?_
          rintro e w6 ⟨o6, y6, rfl, a6, -⟩
          have b6 := b5.keep y6 (by decide)
          have d6 := d5.keep y6 (by decide)
          replace y6 := y5.trans (y6.mono (by simp))
          clear a5 b5 c5 d5 y5
          have hse : ((r : Int) + m == n) = true := beq_iff_eq.2 hs
          go_wp2_with fail
          refine (U3.out _ _ b6 d6).mono ?_
          rintro e w7 ⟨o7, y7, rfl, b7, -⟩
          have a7 := a6.keep y7 (by decide)
          replace y7 := y6.trans (y7.mono (by simp))
          clear a6 b6 d6 y6 U1 U2 U3
          generalize undoL l L.reverse = lz at *
          obtain ⟨N, hN⟩ : ∃ N, lz.length = N := ⟨_, rfl⟩
          have hN60 := a7.len
          rw [hN] at hN60
          have la := fun a => len_any o7 1 pa 60 lz (w7.drewN a) (a7.dr a)
          have ga := fun (j a : Nat) (hj : j < N) => get_in o7 1 pa 60 j lz (w7.drewN a) (a7.dr a) (by omega) (by omega)
          have gb := fun (j a : Nat) (hj : j < N) => get_in o7 2 pb 60 j lz (w7.drewN a) (b7.dr a) (by omega) (by omega)
          simp only [Int.toNat_natCast] at ga gb
          rw [hN] at la
          have LA := Lib.hid la
          have GA := Lib.hid ga
          have GB := Lib.hid gb
          clear la ga gb hN hlz hs hse
          go_wp2_with fail
          refine (LA.out 0).mono ?_
          rintro e w' ⟨rfl, n1, rfl⟩
          go_wp2_with fail
          go_loopw [100] (fun v wr => ∃ (j a : Nat), v = .int .i64 j ∧ j ≤ N ∧ wr = w7.drewN a) (fun v _ => N - (intOf v).toNat)
          case atStart => exact ⟨0, _, rfl, by omega, rfl⟩
          case round =>
            obtain ⟨j, a, rfl, hj, rfl⟩ := hrel
            by_cases hlt : j < N
            · have G1 := GA.out j
              have G2 := GB.out j
              generalize lz.getD j 0 = y at *
              have G1' := Lib.hid G1
              have G2' := Lib.hid G2
              clear G1 G2
              go_wp2_with fail
              refine (G1'.out _ hlt).mono ?_
              rintro e w' ⟨rfl, m1, rfl⟩
              go_wp2_with fail
              refine (G2'.out _ hlt).mono ?_
              rintro e w' ⟨rfl, m2, rfl⟩
              go_wp2_with fail
              go_roundw
              case rel => exact ⟨j + 1, _, by go_num, by omega, rfl⟩
              case measure => simp [intOf]; omega
            · go_wp2_with (go_at_call 62; refine (awake6_any _).mono ?_; rintro e w' ⟨rfl, hb⟩)
              go_ret
              exact ⟨rfl, (y7.belowStep (below_ofDrew hb)).done (by decide)⟩

end Go.Proofs.Ytaahamgjhlnjnaa
