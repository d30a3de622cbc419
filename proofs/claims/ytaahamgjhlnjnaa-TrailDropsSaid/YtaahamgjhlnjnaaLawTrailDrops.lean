/- The walk of the law TrailDrops: what is dropped stays as it was set; what was set before is still undone. -/
import Derived.Test.YtaahamgjhlnjnaaTrailScript
namespace Go.Proofs.Ytaahamgjhlnjnaa
open Go.RowKit
set_option linter.unusedVariables false

theorem any_succ {α : Type} (xs : List α) (f : α → Bool) (m : Nat) (y : α) (h : xs[m]? = some y) : (xs.take (m + 1)).any f = ((xs.take m).any f || f y) := by
  obtain ⟨hm, rfl⟩ := List.getElem?_eq_some_iff.1 h
  rw [List.take_succ_eq_append_getElem hm, List.any_append]
  simp
theorem tdrop_le (own : Nat → Nat) (id p : Nat) (mark : Int) (L : List (Int × Int)) (w : World) (h : TP own id w p L) (h0 : 0 ≤ mark) (hle : mark ≤ L.length) (hL : L.length < 1000000000) :
    Calls Try.prog 61 #[.pointer (some ⟨p, 0, none⟩), .int .i64 mark] w
      (Does own [id] w fun own' e w' => e = .returned (.int .i64 (L.length - mark)) ∧ TP own' id w' p (L.take mark.toNat)) := by
  by_cases hlt : mark < L.length
  · exact tdrop_in own id p mark L w h h0 hlt hL
  · refine (tdrop_out own id p mark L w h (by omega) (by omega) (by omega) hL).mono fun e w' hq => ?_
    obtain ⟨rfl, n, rfl⟩ := hq
    have e1 : mark.toNat = L.length := by omega
    refine ⟨own, (Ext.refl _ _ _).drewN _, by congr 2; omega, ?_⟩
    rw [e1, List.take_length]; exact h.dr n
theorem setL_getD (l : List Int) (i c : Int) (k : Nat) (hk : k < l.length) : (setL l i c).getD k 0 = if i = k then c else l.getD k 0 := by
  unfold setL
  by_cases h : inB l i = true
  · rw [if_pos h]
    have hi := inB_iff.1 h
    simp only [List.getD, List.getElem?_set]
    by_cases e : i = k
    · subst e; simp [hk]
    · rw [if_neg e, if_neg (by omega)]
  · rw [if_neg h, if_neg]
    intro e; subst e
    exact h (inB_iff.2 ⟨by omega, by omega⟩)
/-- The entries of a script, by themselves. -/
def ents (l : List Int) : List GCall → List (Int × Int)
  | [] => []
  | x :: xs => (if inB l x.at_ then [(x.at_, l.getD x.at_.toNat 0)] else []) ++ ents (setL l x.at_ x.c) xs
theorem tgo_ents : ∀ (xs : List GCall) (l : List Int) (L : List (Int × Int)), (tgo (l, L) xs).2 = L ++ ents l xs
  | [], l, L => by simp [tgo, ents]
  | x :: xs, l, L => by
    show (tgo (setL l x.at_ x.c, keptL l L x.at_) xs).2 = _
    rw [tgo_ents xs]
    unfold keptL
    by_cases h : inB l x.at_ = true
    · simp [ents, h]
    · simp [ents, h]
theorem ents_undo : ∀ (xs : List GCall) (l l' : List Int) (k : Nat), l'.length = l.length → k < l.length → (undoL l' (ents l xs).reverse).getD k 0 = if xs.any (fun y => y.at_ == k) then l.getD k 0 else l'.getD k 0
  | [], l, l', k, h, hk => by simp [ents, undoL]
  | x :: xs, l, l', k, h, hk => by
    have ih := ents_undo xs (setL l x.at_ x.c) l' k (by rw [setL_length]; exact h) (by rw [setL_length]; exact hk)
    rw [setL_getD l _ _ k hk] at ih
    have e1 : (ents l (x :: xs)).reverse = (ents (setL l x.at_ x.c) xs).reverse ++ (if inB l x.at_ then [(x.at_, l.getD x.at_.toNat 0)] else []) := by
      simp only [ents, List.reverse_append]
      congr 1
      split <;> rfl
    rw [e1, undoL_append, List.any_cons]
    by_cases hb : inB l x.at_ = true
    · rw [if_pos hb]
      show (setL _ x.at_ (l.getD x.at_.toNat 0)).getD k 0 = _
      rw [setL_getD _ _ _ k (by rw [undoL_length, h]; exact hk), ih]
      by_cases e : x.at_ = k
      · simp [e]
      · rw [if_neg e, if_neg e]
        have : (x.at_ == (k : Int)) = false := beq_eq_false_iff_ne.2 e
        rw [this, Bool.false_or]
    · rw [if_neg hb]
      show (undoL _ (ents (setL l x.at_ x.c) xs).reverse).getD k 0 = _
      have e : ¬ x.at_ = k := fun e => hb (inB_iff.2 ⟨by omega, by omega⟩)
      have : (x.at_ == (k : Int)) = false := beq_eq_false_iff_ne.2 e
      rw [ih, if_neg e, this, Bool.false_or]

set_option maxHeartbeats 12800000 in
set_option maxRecDepth 100000 in
theorem trailDrops_walk (A : Option Addr) (len cap : Nat) (xs : List Int) {w : World} (hc : Came RWord 1 w A len cap xs) (A' : Option Addr) (len' cap' : Nat) (ys : List GCall) (hd : Came RCall 3 w A' len' cap' ys)
    (A'' : Option Addr) (len'' cap'' : Nat) (zs : List GCall) (he : Came RCall 3 w A'' len'' cap'' zs) (_w : World) :
    Calls Try.prog 18 #[.slice A len cap, .slice A' len' cap', .slice A'' len'' cap''] w fun e w' => e = .returned (.bool true) ∧ Below w.heap.size w w' := by
  have hmax := hc.max
  have hle := hc.le
  have hmax' := hd.max
  have hle' := hd.le
  have hmax'' := he.max
  have hle'' := he.le
  unfold maxLen at hmax hmax' hmax''
  have hlen := hc.length
  have HLN := Lib.hid hlen
  have hlen' := hd.length
  have HLN' := Lib.hid hlen'
  clear hlen hlen'
  go_enter Try.func18, Try.ntmps18
  go_wp2_with fail
  refine (new_any own0 1 60 _).mono ?_
  rintro e w1 ⟨o1, x1, rfl, hp1, a1⟩
  generalize w.heap.size = pa at *
  go_wp2_with fail
  refine (new_any o1 2 60 _).mono ?_
  rintro e w2 ⟨o2, x2, rfl, hp2, b2⟩
  generalize w1.heap.size = pb at *
  replace a1 := a1.keep x2 (by decide)
  have x3 := (x1.mono (jds := [1, 2, 3, 5]) (by simp)).trans (x2.mono (by simp))
  clear x1 x2 hp1 hp2
  go_wp2_with fail
  obtain ⟨x4, k4, z4⟩ := x3.box [.pointer (some ⟨pa, 0, none⟩)] 64 9
  replace a1 := a1.keep z4 (by decide)
  replace b2 := b2.keep z4 (by decide)
  clear z4 x3
  generalize _root_.Go.Proofs.Ytaahamgjhlnjnaa.give o2 w2.heap.size 9 = o4 at *
  generalize w2.heap.size = bh at *
  generalize w2.alloc (.cells #[.pointer (some ⟨pa, 0, none⟩)] 64) = w4 at *
  refine (tnew_any o4 3 _).mono ?_
  rintro e w5 ⟨o5, x5, rfl, hp5, c5⟩
  replace a1 := a1.keep x5 (by decide)
  replace b2 := b2.keep x5 (by decide)
  replace k4 := k4.keep x5 (by decide)
  generalize w4.heap.size = pc at *
  replace x5 := x4.trans (x5.mono (by simp))
  clear x4 hp5
  go_wp2_with fail
  obtain ⟨x6, k6, z6⟩ := x5.box [.pointer (some ⟨pc, 0, none⟩)] 74 9
  replace a1 := a1.keep z6 (by decide)
  replace b2 := b2.keep z6 (by decide)
  replace k4 := k4.keep z6 (by decide)
  replace c5 := c5.keep z6 (by decide)
  clear z6 x5
  generalize _root_.Go.Proofs.Ytaahamgjhlnjnaa.give o5 w5.heap.size 9 = o6 at *
  generalize w5.heap.size = bt at *
  generalize w5.alloc (.cells #[.pointer (some ⟨pc, 0, none⟩)] 74) = w6 at *
  go_loopw [36] (fun v wr => ∃ (k : Nat) (own : Nat → Nat), v = .int .i64 k ∧ k ≤ len ∧ Ext own0 own [1, 2, 3, 5] w wr ∧ HP own 1 wr pa 60 ((xs.take 30).take k) ∧ HP own 2 wr pb 60 ((xs.take 30).take k) ∧ TP own 3 wr pc [] ∧
    Blk own 9 wr bh [.pointer (some ⟨pa, 0, none⟩)] 64 ∧ Blk own 9 wr bt [.pointer (some ⟨pc, 0, none⟩)] 74) (fun v _ => len - (intOf v).toNat)
  case atStart => exact ⟨0, o6, rfl, by omega, x6, a1, b2, c5, k4, k6⟩
  case round =>
    obtain ⟨k, own, rfl, hk, x, a, b, c, kh, kt⟩ := hrel
    clear a1 b2 c5 k4 k6 x6
    have f0 := kh.cell 0 rfl
    have f1 := kt.cell 0 rfl
    by_cases hlt : k < len
    · obtain ⟨bb, oo, rfl⟩ := hc.addr (by omega)
      have ck := hc.word (x.done (by decide)) k hlt
      by_cases h30 : k < 30
      · have h30' : ((k : Int) < 30) := by omega
        have hpa := push_room own 1 pa 60 (xs.getD k 0) ((xs.take 30).take k) wr a (by have h1 := List.length_take_le k (xs.take 30); omega)
        have hpb := fun own2 w2 (hh : HP own2 2 w2 pb 60 ((xs.take 30).take k)) => push_room own2 2 pb 60 (xs.getD k 0) ((xs.take 30).take k) w2 hh (by have h1 := List.length_take_le k (xs.take 30); omega)
        have hn : (xs.take 30).take k ++ [xs.getD k 0] = (xs.take 30).take (k + 1) := by
          rw [take_succ_getD (xs.take 30) k (by rw [List.length_take, HLN.out]; omega)]
          congr 2
          simp [List.getD, h30]
        rw [hn] at hpa hpb
        have HPB := Lib.hid hpb
        clear hn hpb
        go_wp2_with fail
        refine hpa.mono ?_
        rintro e w2 ⟨own2, x2, rfl, a2⟩
        have b2 := b.keep x2 (by decide)
        have c2 := c.keep x2 (by decide)
        have kh2 := kh.keep x2 (by decide)
        have kt2 := kt.keep x2 (by decide)
        go_wp2_with fail
        refine (HPB.out _ _ b2).mono ?_
        rintro e w3 ⟨own3, x3, rfl, b3⟩
        go_wp2_with fail
        go_roundw
        case rel => exact ⟨k + 1, own3, by go_num, by omega, (x.trans (x2.mono (by simp))).trans (x3.mono (by simp)), a2.keep x3 (by decide), b3, c2.keep x3 (by decide), kh2.keep x3 (by decide), kt2.keep x3 (by decide)⟩
        case measure => simp [intOf]; omega
      · have h30' : ((30 : Int) ≤ k) := by omega
        have hn : (xs.take 30).take k = (xs.take 30).take (k + 1) := by
          rw [take_stay _ _ _ (by omega), take_stay _ _ _ (by omega)]
        rw [hn] at a b
        go_wp2_with fail
        go_roundw
        case rel => exact ⟨k + 1, own, by go_num, by omega, x, a, b, c, kh, kt⟩
        case measure => simp [intOf]; omega
    · obtain rfl : k = len := by omega
      clear hlt hk hc
      generalize (xs.take 30).take k = l0 at *
      go_wp2_with fail
      refine (script_any own 1 3 pa pc bh bt 60 l0 [] _ a c (by decide) (by decide) (by decide) (by decide) kt kh A' len' cap' ys w hd (x.done (by decide)) (fun b hb => x.own b hb)).mono ?_
      rintro e w1 ⟨own1, x1, rfl, a1, c1⟩
      have hE := tgo_ents (ys.take 20) l0 []
      have hT1 := tgo_length (ys.take 20) (l0, [])
      have hy20 : (ys.take 20).length ≤ 20 := by rw [List.length_take]; omega
      have b1 := b.keep x1 (by decide)
      have kh1 := kh.keep x1 (by decide)
      have kt1 := kt.keep x1 (by decide)
      replace x1 := x.trans (x1.mono (by simp))
      clear a b c kh kt x f0 f1
      generalize tgo (l0, []) (ys.take 20) = s1 at *
      obtain ⟨l1, L1⟩ := s1
      replace hE : L1 = ents l0 (ys.take 20) := by simpa using hE
      have hl1 : l1.length = l0.length := hT1.1
      have hL1 : L1.length ≤ 20 := by have := hT1.2.2; simp only [List.length_nil] at this; omega
      replace a1 : HP own1 1 w1 pa 60 l1 := a1
      replace c1 : TP own1 3 w1 pc L1 := c1
      have HE := Lib.hid hE
      clear hT1 hy20 hE
      have f0 := kh1.cell 0 rfl
      have f1 := kt1.cell 0 rfl
      go_wp2_with fail
      refine (tmark_any own1 3 pc L1 _ c1).mono ?_
      rintro e w' ⟨rfl, n1, rfl⟩
      go_wp2_with fail
      refine (script_any own1 1 3 pa pc bh bt 60 l1 L1 (w1.drewN n1) (a1.dr n1) (c1.dr n1) (by decide) (by decide) (by decide) (by omega) kt1 kh1 A'' len'' cap'' zs w he ((x1.drewN n1).done (by decide)) (fun b hb => (x1.drewN n1).own b hb)).mono ?_
      rintro e w2 ⟨own2, x2, rfl, a2, c2⟩
      have hT2 := tgo_length (zs.take 20) (l1, L1)
      have hU2 := (tgo_undo (zs.take 20) (l1, L1)).2
      have hz20 : (zs.take 20).length ≤ 20 := by rw [List.length_take]; omega
      have b2 := (b1.dr n1).keep x2 (by decide)
      have kh2 := (show Blk own1 9 (w1.drewN n1) bh _ _ from kh1).keep x2 (by decide)
      have kt2 := (show Blk own1 9 (w1.drewN n1) bt _ _ from kt1).keep x2 (by decide)
      replace x2 := x1.trans (x2.ofDrew.mono (by simp))
      clear a1 b1 c1 kh1 kt1 x1 f0 f1
      generalize tgo (l1, L1) (zs.take 20) = s2 at *
      obtain ⟨l2, L2⟩ := s2
      have hl2 : l2.length = l0.length := hT2.1.trans hl1
      have hL2 : L2.length ≤ 40 := by have := hT2.2.2; simp only at this; omega
      have hL12 : L1.length ≤ L2.length := hT2.2.1
      replace a2 : HP own2 1 w2 pa 60 l2 := a2
      replace c2 : TP own2 3 w2 pc L2 := c2
      replace hU2 : L2.take L1.length = L1 := hU2
      clear hT2 hz20 he
      have f0 := kh2.cell 0 rfl
      have f1 := kt2.cell 0 rfl
      obtain ⟨N, hN⟩ : ∃ N, l0.length = N := ⟨_, rfl⟩
      rw [hN] at hl1 hl2
      have hN60 := a2.len
      rw [hl2] at hN60
      have HU2 := Lib.hid hU2
      have HL2 := Lib.hid hl2
      have HN := Lib.hid hN
      clear hU2 hl2 hN
      go_wp2_with fail
      refine (len_any own2 1 pa 60 l2 _ a2).mono ?_
      rw [HL2.out]
      rintro e w' ⟨rfl, n2, rfl⟩
      go_wp2_with fail
      go_loopw [14, 61] (fun v v' wr => ∃ (j : Nat) (own : Nat → Nat), v' = .int .i64 j ∧ j ≤ N ∧ Ext own0 own [1, 2, 3, 5] w wr ∧ HP own 1 wr pa 60 l2 ∧ HP own 2 wr pb 60 l0 ∧ TP own 3 wr pc L2 ∧
        Blk own 9 wr bh [.pointer (some ⟨pa, 0, none⟩)] 64 ∧ Blk own 9 wr bt [.pointer (some ⟨pc, 0, none⟩)] 74 ∧ Row own 5 wr 24 1 v j (words (l2.take j))) (fun _ v' _ => N - (intOf v').toNat)
      case atStart => exact ⟨0, own2, rfl, by omega, x2.drewN n2, a2, b2, c2, kh2, kt2, Row.nil _ _ _ _ _⟩
      case round =>
        clear a2 b2 c2 kh2 kt2 x2 f0 f1
        obtain ⟨j, own, rfl, hj, x, a, b, c, kh, kt, hr⟩ := hrel
        have f0 := kh.cell 0 rfl
        have f1 := kt.cell 0 rfl
        by_cases hlt : j < N
        · obtain ⟨Ar, cr, rfl, hcr⟩ := hr.form
          have hg := get_in own 1 pa 60 j l2 wr a (by omega) (by rw [HL2.out]; omega)
          rw [Int.toNat_natCast] at hg
          have hn : words (l2.take j) ++ [Value.int .u64 (l2.getD j 0)] = words (l2.take (j + 1)) := by
            rw [take_succ_getD l2 j (by rw [HL2.out]; exact hlt), words_append]; rfl
          have HNW := Lib.hid hn
          clear hn
          generalize l2.getD j 0 = y at *
          go_wp2_with fail
          refine hg.mono ?_
          rintro e w' ⟨rfl, n3, rfl⟩
          have hr3 : Row own 5 (wr.drewN n3) _ _ _ _ _ := hr
          have a3 := a.dr n3
          have b3 := b.dr n3
          have c3 := c.dr n3
          have kh3 : Blk own 9 (wr.drewN n3) bh _ _ := kh
          have kt3 : Blk own 9 (wr.drewN n3) bt _ _ := kt
          have x3 := x.drewN n3
          generalize wr.drewN n3 = w3 at *
          clear a b c kh kt x hr hg
          go_wp2_with (at_builtin; refine wpList_append_row rfl _ _ 69 rfl 24 (.int .u64 0) 1 8 Try.underlying69 info_cell rfl (by decide) (by decide) rfl rfl rfl (one_cell' _ rfl) hr3 (by omega) ?_)
          intro g cap' w4 own4 hr4 x4 _ _
          go_wp2_with fail
          go_roundw
          case rel => exact ⟨j + 1, own4, by go_num, by omega, x3.trans (x4.mono (by simp)), a3.keep x4 (by decide), b3.keep x4 (by decide), c3.keep x4 (by decide), kh3.keep x4 (by decide), kt3.keep x4 (by decide), by rw [← HNW.out]; exact hr4⟩
          case measure => simp [intOf]; omega
        · obtain rfl : j = N := by omega
          rw [List.take_of_length_le (by rw [HL2.out]; exact Nat.le_refl _)] at hr
          obtain ⟨Ar, cr, rfl, hcr⟩ := hr.form
          go_wp2_with fail
          refine (tlen_any own 3 pc L2 _ c).mono ?_
          rintro e w' ⟨rfl, n4, rfl⟩
          obtain ⟨K, hK⟩ : ∃ K, L2.length = K := ⟨_, rfl⟩
          obtain ⟨M, hM⟩ : ∃ M, L1.length = M := ⟨_, rfl⟩
          have hdp := tdrop_le own 3 pc M L2 (wr.drewN n4) (c.dr n4) (by omega) (by omega) (by omega)
          rw [Int.toNat_natCast, ← hM, HU2.out, hM, hK] at hdp
          rw [hM, hK] at hL12
          rw [hK] at hL2 ⊢
          rw [hM] at hL1 ⊢
          have HK := Lib.hid hK
          have HM := Lib.hid hM
          clear hK hM
          go_wp2_with fail
          refine hdp.mono ?_
          rintro e w5 ⟨own5, x5, rfl, c5⟩
          have a5 := (a.dr n4).keep x5 (by decide)
          have b5 := (b.dr n4).keep x5 (by decide)
          have kh5 := (show Blk own 9 (wr.drewN n4) bh _ _ from kh).keep x5 (by decide)
          have kt5 := (show Blk own 9 (wr.drewN n4) bt _ _ from kt).keep x5 (by decide)
          have hr5 := (show Row own 5 (wr.drewN n4) _ _ _ _ _ from hr).keep x5 (by decide)
          replace x5 := x.trans (x5.ofDrew.mono (by simp))
          clear a b c kh kt hr x f0 f1 hdp
          have f0 := kh5.cell 0 rfl
          have f1 := kt5.cell 0 rfl
          have hln := tlen_any own5 3 pc L1 _ c5
          rw [HM.out] at hln
          go_wp2_with fail
          refine hln.mono ?_
          rintro e w' ⟨rfl, n5, rfl⟩
          clear hln
          go_wp2_with fail
          have h5 := fun a => And.intro (a5.dr a) (And.intro (x5.drewN a) (And.intro (show Blk own5 9 (w5.drewN a) bh _ _ from kh5) (show Row own5 5 (w5.drewN a) _ _ _ _ _ from hr5)))
          have H5 := Lib.hid h5
          clear h5 f0 f1
          go_loopw [92] (fun v wr => ∃ (i a : Nat), v = .int .i64 i ∧ i ≤ j ∧ wr = w5.drewN a) (fun v _ => j - (intOf v).toNat)
          case atStart => exact ⟨0, _, rfl, by omega, rfl⟩
          case round =>
            obtain ⟨i, a, rfl, hi, rfl⟩ := hrel
            obtain ⟨a6, x6, kh6, hr6⟩ := H5.out a
            have f0 := kh6.cell 0 rfl
            by_cases hlt : i < j
            · obtain ⟨g, cg, hv, _⟩ := hr6.form_pos (by omega)
              cases hv
              have ci := hr6.cell i (words_get l2 i (by rw [HL2.out]; exact hlt))
              have hg := get_in own5 1 pa 60 i l2 _ a6 (by omega) (by rw [HL2.out]; omega)
              rw [Int.toNat_natCast] at hg
              generalize l2.getD i 0 = y at *
              go_wp2_with fail
              refine hg.mono ?_
              rintro e w' ⟨rfl, n6, rfl⟩
              go_wp2_with fail
              go_roundw
              case rel => exact ⟨i + 1, _, by go_num, by omega, rfl⟩
              case measure => simp [intOf]; omega
            · have f1 := (show Blk own5 9 (w5.drewN a) bt _ _ from kt5).cell 0 rfl
              have hud := tundo_le own5 1 3 pa pc 60 0 l2 L1 _ a6 (c5.dr a) (by decide) (by decide) (by omega) (by rw [HM.out]; omega)
              simp only [Int.toNat_zero, List.drop_zero, List.take_zero] at hud
              have b6 := b5.dr a
              have kt6 : Blk own5 9 (w5.drewN a) bt _ _ := kt5
              go_wp2_with fail
              refine hud.mono ?_
              rintro e w7 ⟨own7, x7, rfl, a7, c7⟩
              have hlaw := fun (i : Nat) (hi : i < j) => ents_undo (ys.take 20) l0 l2 i (by rw [HL2.out, HN.out]) (by rw [HN.out]; exact hi)
              rw [← HE.out] at hlaw
              have hl3 : (undoL l2 L1.reverse).length = j := by rw [undoL_length]; exact HL2.out
              generalize undoL l2 L1.reverse = l3 at *
              have b7 := b6.keep x7 (by decide)
              have kh7 := kh6.keep x7 (by decide)
              have kt7 := kt6.keep x7 (by decide)
              have hr7 := hr6.keep x7 (by decide)
              replace x7 := x6.trans (x7.mono (by simp))
              have HLAW := Lib.hid hlaw
              have HL3 := Lib.hid hl3
              clear hud a6 b6 kh6 kt6 hr6 x6 f0 f1 hlaw hl3 H5 a5 b5 c5 kh5 kt5 hr5 x5 hlt hi
              go_wp2_with fail
              go_loopw [112] (fun v wr => ∃ (i : Nat) (own : Nat → Nat), v = .int .i64 i ∧ i ≤ j ∧ Ext own0 own [1, 2, 3, 5] w wr ∧ HP own 1 wr pa 60 l3 ∧ HP own 2 wr pb 60 l0 ∧ TP own 3 wr pc [] ∧ Blk own 9 wr bh [.pointer (some ⟨pa, 0, none⟩)] 64 ∧ Blk own 9 wr bt [.pointer (some ⟨pc, 0, none⟩)] 74 ∧ Row own 5 wr 24 1 (.slice Ar j cr) j (words l2)) (fun v _ => j - (intOf v).toNat)
              case atStart => exact ⟨0, own7, rfl, by omega, x7, a7, b7, c7, kh7, kt7, hr7⟩
              case round =>
                clear a7 b7 c7 kh7 kt7 hr7 x7
                obtain ⟨i, own, rfl, hi, x, a, b, c, kh, kt, hr⟩ := hrel
                have f0 := kh.cell 0 rfl
                have f1 := kt.cell 0 rfl
                by_cases hlt : i < j
                · have hga := get_in own 1 pa 60 i l3 wr a (by omega) (by rw [HL3.out]; omega)
                  have hgb := fun q => get_in own 2 pb 60 i l0 (wr.drewN q) (b.dr q) (by omega) (by rw [HN.out]; omega)
                  rw [Int.toNat_natCast] at hga hgb
                  have hlw := HLAW.out i hlt
                  have hwd := words_get l2 i (by rw [HL2.out]; exact hlt)
                  generalize l3.getD i 0 = vx at *
                  generalize l0.getD i 0 = vf at *
                  generalize l2.getD i 0 = vv at *
                  have HGB := Lib.hid hgb
                  have HLW := Lib.hid hlw
                  have HWD := Lib.hid hwd
                  clear hgb hlw hwd
                  go_wp2_with fail
                  refine hga.mono ?_
                  rintro e w' ⟨rfl, n7, rfl⟩
                  clear hga
                  go_wp2_with fail
                  refine (HGB.out _).mono ?_
                  rintro e w' ⟨rfl, n8, rfl⟩
                  go_wp2_with fail
                  generalize hq : n7 + n8 = n9 at *
                  go_loopw [28, 129] (fun v v' wr => ∃ (m : Nat) (own : Nat → Nat), v = .bool (((ys.take 20).take m).any (fun y => y.at_ == (i : Int))) ∧ v' = .int .i64 m ∧ m ≤ len' ∧ Ext own0 own [1, 2, 3, 5] w wr ∧ HP own 1 wr pa 60 l3 ∧ HP own 2 wr pb 60 l0 ∧ TP own 3 wr pc [] ∧ Blk own 9 wr bh [.pointer (some ⟨pa, 0, none⟩)] 64 ∧ Blk own 9 wr bt [.pointer (some ⟨pc, 0, none⟩)] 74 ∧ Row own 5 wr 24 1 (.slice Ar j cr) j (words l2)) (fun _ v' _ => len' - (intOf v').toNat)
                  case atStart => exact ⟨0, own, rfl, rfl, by omega, x.drewN _, a, b, c, kh, kt, hr⟩
                  case round =>
                    clear a b c kh kt hr x f0 f1
                    obtain ⟨m, own, rfl, rfl, hm, x, a, b, c, kh, kt, hr⟩ := hrel
                    by_cases hlt2 : m < len'
                    · obtain ⟨bb, oo, rfl⟩ := hd.addr (by omega)
                      obtain ⟨y, hy, e0, e1, e2, r0, r1, r2⟩ := hd.call (x.done (by decide)) m hlt2
                      by_cases h20 : m < 20
                      · have h20' : ((m : Int) < 20) := by omega
                        have hs := any_succ (ys.take 20) (fun y => y.at_ == (i : Int)) m y (by rw [List.getElem?_take_of_lt h20]; exact hy)
                        have HS := Lib.hid hs
                        clear hs hy
                        generalize ((ys.take 20).take m).any (fun y => y.at_ == (i : Int)) = B at *
                        cases B with
                        | true =>
                          go_wp2_with fail
                          go_roundw
                          case rel => exact ⟨m + 1, own, by rw [HS.out]; rfl, by go_num, by omega, x.alloc _, a.alloc _, b.alloc _, c.alloc _, kh.alloc _, kt.alloc _, hr.alloc _⟩
                          case measure => simp [intOf]; omega
                        | false =>
                          by_cases hye : y.at_ = i
                          · have ht : (y.at_ == (i : Int)) = true := beq_iff_eq.2 hye
                            have HT := Lib.hid ht
                            go_wp2_with fail
                            go_roundw
                            case rel => exact ⟨m + 1, own, by rw [HS.out]; simp [HT.out], by go_num, by omega, x.alloc _, a.alloc _, b.alloc _, c.alloc _, kh.alloc _, kt.alloc _, hr.alloc _⟩
                            case measure => simp [intOf]; omega
                          · have ht : (y.at_ == (i : Int)) = false := beq_eq_false_iff_ne.2 hye
                            have HT := Lib.hid ht
                            go_wp2_with fail
                            go_roundw
                            case rel => exact ⟨m + 1, own, by rw [HS.out]; simp [HT.out], by go_num, by omega, x.alloc _, a.alloc _, b.alloc _, c.alloc _, kh.alloc _, kt.alloc _, hr.alloc _⟩
                            case measure => simp [intOf]; omega
                      · have h20' : ((20 : Int) ≤ m) := by omega
                        have hs : (ys.take 20).take m = (ys.take 20).take (m + 1) := by rw [take_stay _ _ _ (by omega), take_stay _ _ _ (by omega)]
                        rw [hs]
                        have HS := Lib.hid hs
                        clear hs hy
                        obtain ⟨B, hBB⟩ : ∃ B, ((ys.take 20).take (m + 1)).any (fun y => y.at_ == (i : Int)) = B := ⟨_, rfl⟩
                        rw [hBB]
                        have HBB := Lib.hid hBB
                        clear hBB
                        cases B with
                        | true =>
                          go_wp2_with fail
                          go_roundw
                          case rel => exact ⟨m + 1, own, by rw [HBB.out], by go_num, by omega, x.alloc _, a.alloc _, b.alloc _, c.alloc _, kh.alloc _, kt.alloc _, hr.alloc _⟩
                          case measure => simp [intOf]; omega
                        | false =>
                          go_wp2_with fail
                          go_roundw
                          case rel => exact ⟨m + 1, own, by rw [HBB.out], by go_num, by omega, x.alloc _, a.alloc _, b.alloc _, c.alloc _, kh.alloc _, kt.alloc _, hr.alloc _⟩
                          case measure => simp [intOf]; omega
                    · obtain rfl : m = len' := by omega
                      have hB : ((ys.take 20).take m).any (fun y => y.at_ == (i : Int)) = (ys.take 20).any (fun y => y.at_ == (i : Int)) := by
                        rw [List.take_of_length_le (by rw [List.length_take, HLN'.out]; omega)]
                      have hlw := HLW.out
                      rw [← hB] at hlw
                      clear hB hlt2 hm HLW
                      generalize ((ys.take 20).take m).any (fun y => y.at_ == (i : Int)) = B at *
                      obtain ⟨g, cg, hv, _⟩ := hr.form_pos (by omega)
                      cases hv
                      have ci := hr.cell i HWD.out
                      cases B with
                      | true =>
                        obtain rfl : vx = vf := by simpa using hlw
                        clear hlw
                        go_wp2_with fail
                        go_roundw
                        case rel => exact ⟨i + 1, own, by go_num, by omega, x, a, b, c, kh, kt, hr⟩
                        case measure => simp [intOf]; omega
                      | false =>
                        obtain rfl : vx = vv := by simpa using hlw
                        clear hlw
                        go_wp2_with fail
                        go_roundw
                        case rel => exact ⟨i + 1, own, by go_num, by omega, x, a, b, c, kh, kt, hr⟩
                        case measure => simp [intOf]; omega
                · have hln := tlen_any own 3 pc [] wr c
                  go_wp2_with (first | (go_at_call 60; refine hln.mono ?_; rintro e w' ⟨rfl, n, rfl⟩) | (go_at_call 62; refine (awake6_any _).mono ?_; rintro e w' ⟨rfl, hb⟩))
                  go_ret
                  exact ⟨rfl, (x.belowStep (below_ofDrew hb)).done (by decide)⟩

end Go.Proofs.Ytaahamgjhlnjnaa
