/- The trail's Drop and Undo (package trail), each by a contract. -/
import Derived.Test.YtlmcfclonncgbaaTrail
import Derived.BigRegion
import Derived.StillTailTactics
import Derived.Outline
namespace Go.Proofs.Ytlmcfclonncgbaa
open Go.RowKit
set_option linter.unusedVariables false

theorem Ext.ofDrew1 {o o' : Nat → Nat} {ids : List Nat} {w w' : World} (h : Ext o o' ids w.drew w') : Ext o o' ids w w' := ⟨h.os, h.tape, h.output, h.size, h.own, h.block⟩
theorem tdrop_end {own : Nat → Nat} {id p capp capc j : Nat} {A A' : Option Addr} {L : List (Int × Int)} {w : World} (hb : Blk own id w p [.slice A L.length capp, .slice A' L.length capc] 159)
    (hr : Row own id w 3 1 (.slice A L.length capp) L.length (nums64 (L.map (·.1)))) (hs : Row own id w 34 1 (.slice A' L.length capc) L.length (words (L.map (·.2)))) (hj : j ≤ L.length) :
    TP own id ((w.setCell ⟨p, 0, none⟩ (.slice A j capp)).setCell ⟨p, 1, none⟩ (.slice A' j capc)) p (L.take j) ∧ TP own id ((w.setCell ⟨p, 1, none⟩ (.slice A' j capc)).setCell ⟨p, 0, none⟩ (.slice A j capp)) p (L.take j) := by
  have n1 := hr.ne_blk hb (by decide)
  have n2 := hs.ne_blk hb (by decide)
  have k1 := hr.cut (m := j) hj
  have k2 := hs.cut (m := j) hj
  have m1 : (Value.slice A j capp).ownBlock ≠ some p := by cases A with | none => simp [Value.ownBlock] | some a => simpa [Value.ownBlock] using n1
  have m2 : (Value.slice A' j capc).ownBlock ≠ some p := by cases A' with | none => simp [Value.ownBlock] | some a => simpa [Value.ownBlock] using n2
  have e1 : (nums64 (L.map (·.1))).take (j * 1) = nums64 ((L.take j).map (·.1)) := by rw [Nat.mul_one, nums64_take, List.map_take]
  have e2 : (words (L.map (·.2))).take (j * 1) = words ((L.take j).map (·.2)) := by rw [Nat.mul_one, words_take, List.map_take]
  have e3 : (L.take j).length = j := by rw [List.length_take]; omega
  rw [e1] at k1
  rw [e2] at k2
  constructor
  · refine ⟨_, _, (hb.set 0 _).set 1 _, ?_, ?_⟩
    · rw [e3]; exact (k1.far (p := ⟨p, 0, none⟩) m1 _).far (p := ⟨p, 1, none⟩) m1 _
    · rw [e3]; exact (k2.far (p := ⟨p, 0, none⟩) m2 _).far (p := ⟨p, 1, none⟩) m2 _
  · refine ⟨_, _, (hb.set 1 _).set 0 _, ?_, ?_⟩
    · rw [e3]; exact (k1.far (p := ⟨p, 1, none⟩) m1 _).far (p := ⟨p, 0, none⟩) m1 _
    · rw [e3]; exact (k2.far (p := ⟨p, 1, none⟩) m2 _).far (p := ⟨p, 0, none⟩) m2 _

set_option maxHeartbeats 1600000 in
set_option maxRecDepth 100000 in
theorem tdrop_in (own : Nat → Nat) (id p : Nat) (mark : Int) (L : List (Int × Int)) (w : World) (h : TP own id w p L) (h0 : 0 ≤ mark) (hlt : mark < L.length) (hL : L.length < 1000000000) :
    Calls Try.prog 104 #[.pointer (some ⟨p, 0, none⟩), .int .i64 mark] w
      (Does own [id] w fun own' e w' => e = .returned (.int .i64 (L.length - mark)) ∧ TP own' id w' p (L.take mark.toNat)) := by
  have hl := tlen_any own id p L w h
  have HLN := Lib.hid hl
  clear hl
  obtain ⟨vp, vc, hb, hr, hs⟩ := h
  obtain ⟨Ap, capp, rfl, hcp⟩ := hr.form
  obtain ⟨Ac, capc, rfl, hcc⟩ := hs.form
  obtain ⟨j, rfl⟩ := Int.eq_ofNat_of_zero_le h0
  rw [Int.toNat_natCast]
  have hjp : j ≤ capp := by omega
  have hjc : j ≤ capc := by omega
  have hbo := hb.2
  have HBO := Lib.hid hbo
  clear hbo
  go_enter Try.func104, Try.ntmps104
  go_wp2_with fail
  refine HLN.out.mono ?_
  rintro e w1 ⟨rfl, n, rfl⟩
  replace hb : Blk own id (w.drewN n) p _ _ := hb
  replace hr : Row own id (w.drewN n) _ _ _ _ _ := hr
  replace hs : Row own id (w.drewN n) _ _ _ _ _ := hs
  have x0 := (Ext.refl own [id] w).drewN n
  generalize w.drewN n = W at *
  have c0 := hb.cell 0 rfl
  have c1 := hb.cell 1 rfl
  have f0 := hb.free 0
  have f1 := hb.free 1
  go_wp2_with fail
  go_region
  all_goals go_wp2_with fail
  all_goals go_ret
  all_goals
    refine ⟨own, ?_, rfl, ?_⟩
    · have hq : ∀ i : Nat, (⟨p, i, none⟩ : Addr).block < w.heap.size → own (⟨p, i, none⟩ : Addr).block ∈ [id] := fun i _ => by show own p ∈ [id]; rw [HBO.out]; simp
      first
        | exact ((x0.setCell _ _ (hq _)).setCell _ _ (hq _))
        | exact ((x0.setCell _ _ (hq _)).setCell _ _ (hq _)).drew
    · first
        | exact (tdrop_end hb hr hs (by omega)).1
        | exact (tdrop_end hb hr hs (by omega)).2

theorem tdrop_out (own : Nat → Nat) (id p : Nat) (mark : Int) (L : List (Int × Int)) (w : World) (h : TP own id w p L) (hm : mark < 0 ∨ (L.length : Int) ≤ mark) (hb : -9223372036854775808 ≤ mark) (hb2 : mark ≤ 9223372036854775807) (hL : L.length < 1000000000) :
    Calls Try.prog 104 #[.pointer (some ⟨p, 0, none⟩), .int .i64 mark] w (Quiet w (.int .i64 0)) := by
  have hl := tlen_any own id p L w h
  have HLN := Lib.hid hl
  clear hl
  rcases hm with hm | hm
  · go_enter Try.func104, Try.ntmps104
    go_wp2_with (go_at_call 71; refine HLN.out.mono ?_; rintro e w1 ⟨rfl, n, rfl⟩)
    go_ret
    exact ⟨rfl, _, rfl⟩
  · have hm0 : 0 ≤ mark := by omega
    go_enter Try.func104, Try.ntmps104
    go_wp2_with (go_at_call 71; refine HLN.out.mono ?_; rintro e w1 ⟨rfl, n, rfl⟩)
    go_ret
    exact ⟨rfl, _, rfl⟩
theorem tdrop_nil (mark : Int) (w : World) (hb : -9223372036854775808 ≤ mark) (hb2 : mark ≤ 9223372036854775807) : Calls Try.prog 104 #[.pointer none, .int .i64 mark] w (Quiet w (.int .i64 0)) := by
  by_cases hm : mark < 0
  · go_enter Try.func104, Try.ntmps104
    go_wp2_with (go_at_call 71; refine (tlen_nil _).mono ?_; rintro e w1 ⟨rfl, n, rfl⟩)
    go_ret
    exact ⟨rfl, _, rfl⟩
  · have hm0 : 0 ≤ mark := by omega
    go_enter Try.func104, Try.ntmps104
    go_wp2_with (go_at_call 71; refine (tlen_nil _).mono ?_; rintro e w1 ⟨rfl, n, rfl⟩)
    go_ret
    exact ⟨rfl, _, rfl⟩
theorem tundo_nil (h : Option Addr) (mark : Int) (w : World) (hb : -9223372036854775808 ≤ mark) (hb2 : mark ≤ 9223372036854775807) : Calls Try.prog 70 #[.pointer none, .pointer h, .int .i64 mark] w (Quiet w (.int .i64 0)) := by
  by_cases hm : mark < 0
  · go_enter Try.func70, Try.ntmps70
    go_wp2_with (go_at_call 71; refine (tlen_nil _).mono ?_; rintro e w1 ⟨rfl, n, rfl⟩)
    go_ret
    exact ⟨rfl, _, rfl⟩
  · have hm0 : 0 ≤ mark := by omega
    go_enter Try.func70, Try.ntmps70
    go_wp2_with (go_at_call 71; refine (tlen_nil _).mono ?_; rintro e w1 ⟨rfl, n, rfl⟩)
    go_ret
    exact ⟨rfl, _, rfl⟩
theorem tundo_out (own : Nat → Nat) (id p : Nat) (hp : Option Addr) (mark : Int) (L : List (Int × Int)) (w : World) (h : TP own id w p L) (hm : mark < 0 ∨ (L.length : Int) ≤ mark) (hb : -9223372036854775808 ≤ mark) (hb2 : mark ≤ 9223372036854775807) (hL : L.length < 1000000000) :
    Calls Try.prog 70 #[.pointer (some ⟨p, 0, none⟩), .pointer hp, .int .i64 mark] w (Quiet w (.int .i64 0)) := by
  have hl := tlen_any own id p L w h
  have HLN := Lib.hid hl
  clear hl
  rcases hm with hm | hm
  · go_enter Try.func70, Try.ntmps70
    go_wp2_with (go_at_call 71; refine HLN.out.mono ?_; rintro e w1 ⟨rfl, n, rfl⟩)
    go_ret
    exact ⟨rfl, _, rfl⟩
  · have hm0 : 0 ≤ mark := by omega
    go_enter Try.func70, Try.ntmps70
    go_wp2_with (go_at_call 71; refine HLN.out.mono ?_; rintro e w1 ⟨rfl, n, rfl⟩)
    go_ret
    exact ⟨rfl, _, rfl⟩

/-- What undoing leaves of the cells: the entries, the last first. -/
def undoL (l : List Int) (es : List (Int × Int)) : List Int := es.foldl (fun l e => setL l e.1 e.2) l
theorem setL_length (l : List Int) (i c : Int) : (setL l i c).length = l.length := by unfold setL; split <;> simp
theorem undoL_length : ∀ (es : List (Int × Int)) (l : List Int), (undoL l es).length = l.length
  | [], _ => rfl
  | e :: es, l => by
    show (undoL (setL l e.1 e.2) es).length = _
    rw [undoL_length es, setL_length]
theorem undoL_snoc (l : List Int) (es : List (Int × Int)) (e : Int × Int) : undoL l (es ++ [e]) = setL (undoL l es) e.1 e.2 := by simp [undoL]
/-- The entries behind a mark, the last first: the first j + 1 of them. -/
theorem rev_take (L : List (Int × Int)) (m j : Nat) (h : m + j < L.length) : ((L.drop m).reverse).take (j + 1) = ((L.drop m).reverse).take j ++ [L.getD (L.length - 1 - j) (0, 0)] := by
  have hl : j < (L.drop m).reverse.length := by simp; omega
  rw [List.take_succ_eq_append_getElem hl]
  congr 2
  rw [List.getElem_reverse, List.getElem_drop, List.getD, List.getElem?_eq_getElem (by omega), Option.getD_some]
  congr 1
  simp
  omega

set_option maxHeartbeats 3200000 in
set_option maxRecDepth 100000 in
theorem tundo_in (own : Nat → Nat) (idh id ph p : Nat) (most mark : Int) (l : List Int) (L : List (Int × Int)) (w : World) (hh : HP own idh w ph most l) (h : TP own id w p L) (hid : idh ≠ id) (h0 : 0 ≤ mark) (hlt : mark < L.length) (hL : L.length < 1000000000) :
    Calls Try.prog 70 #[.pointer (some ⟨p, 0, none⟩), .pointer (some ⟨ph, 0, none⟩), .int .i64 mark] w
      (Does own [idh, id] w fun own' e w' => e = .returned (.int .i64 (L.length - mark)) ∧ HP own' idh w' ph most (undoL l (L.drop mark.toNat).reverse) ∧ TP own' id w' p (L.take mark.toNat)) := by
  have hl := fun a => tlen_any own id p L (w.drewN a) (h.dr a)
  have HLN := Lib.hid hl
  clear hl
  obtain ⟨m, rfl⟩ := Int.eq_ofNat_of_zero_le h0
  rw [Int.toNat_natCast]
  obtain ⟨N, hN⟩ : ∃ N, L.length = N + 1 := ⟨L.length - 1, by omega⟩
  go_enter Try.func70, Try.ntmps70
  go_wp2_with fail
  refine (HLN.out 0).mono ?_
  rintro e w1 ⟨rfl, n1, rfl⟩
  go_wp2_with fail
  refine (HLN.out _).mono ?_
  rintro e w1 ⟨rfl, n2, rfl⟩
  go_wp2_with fail
  have hjm : m ≤ N := by omega
  have HN := Lib.hid hN
  clear hN
  go_loopw [8] (fun v wr => ∃ (j : Nat) (own' : Nat → Nat), v = .int .i64 ((N : Int) - j) ∧ m + j ≤ N + 1 ∧ Ext own own' [idh, id] w wr ∧ HP own' idh wr ph most (undoL l (((L.drop m).reverse).take j)) ∧ TP own' id wr p L) (fun v _ => (intOf v + 1 - m).toNat)
  case atStart => exact ⟨0, own, by go_num, by omega, ((Ext.refl own [idh, id] w).drewN _), hh, h⟩
  case round =>
    obtain ⟨j, own', rfl, hj, x, hh', h'⟩ := hrel
    clear hh h
    by_cases hlt2 : m + j < N + 1
    · obtain ⟨q, hq⟩ : ∃ q : Nat, (N : Int) - j = q := ⟨N - j, by omega⟩
      rw [hq]
      have hrt := rev_take L m j (by rw [HN.out]; omega)
      have hqe : L.length - 1 - j = q := by rw [HN.out]; omega
      rw [hqe] at hrt
      have hql : q < L.length := by rw [HN.out]; omega
      have h2 := h'
      obtain ⟨vp, vc, hb, hr, hs⟩ := h2
      obtain ⟨gp, capp, rfl, hcp⟩ := hr.form_pos (by omega)
      obtain ⟨gc, capc, rfl, hcc⟩ := hs.form_pos (by omega)
      have c0 := hb.cell 0 rfl
      have c1 := hb.cell 1 rfl
      have cp := hr.cell q (nums64_get _ q (by simpa using hql))
      have cc := hs.cell q (words_get _ q (by simpa using hql))
      have e1 : (L.map (·.1)).getD q 0 = (L.getD q (0, 0)).1 := by simp [List.getD, hql]
      have e2 : (L.map (·.2)).getD q 0 = (L.getD q (0, 0)).2 := by simp [List.getD, hql]
      rw [e1] at cp
      rw [e2] at cc
      have hsn := undoL_snoc l (((L.drop m).reverse).take j) (L.getD q (0, 0))
      rw [← hrt] at hsn
      have HSN := Lib.hid hsn
      have HQ := Lib.hid hq
      have HQE := Lib.hid hqe
      clear hsn hrt e1 e2 hq hqe
      generalize L.getD q (0, 0) = en at *
      obtain ⟨ea, ec⟩ := en
      generalize undoL l (((L.drop m).reverse).take j) = lj at *
      have hset := fun W' (hW : HP own' idh W' ph most lj) => set_any own' idh ph most ea ec lj W' hW
      have HSET := Lib.hid hset
      clear hset
      have hql2 : (q : Int) < L.length := by omega
      have hqm : ¬ (q : Int) < m := by have := HQ.out; omega
      go_wp2_with fail
      go_region_with (go_at_call 88; refine (HSET.out _ (by exact hh')).mono ?_; rintro e w' ⟨own2, x2, rfl, h2⟩)
      all_goals
        have x3 : Ext own' own2 [idh] wr w' := by first | exact x2 | exact x2.ofDrew1 | exact x2.ofDrew
        have h3 := h'.keep x3 (by simpa using hid.symm)
        clear x2 HSET c0 c1 cp cc hb hr hs
        go_wp2_with fail
        go_roundw
        case rel => exact ⟨j + 1, own2, by have := HQ.out; congr 1; omega, by omega, x.trans (x3.mono (by simp)), by rw [HSN.out]; exact h2, h3⟩
        case measure => have := HQ.out; simp [intOf]; omega
    · have hje : m + j = N + 1 := by omega
      have hq : (N : Int) - j = (m : Int) - 1 := by omega
      rw [hq]
      have hta : ((L.drop m).reverse).take j = (L.drop m).reverse := List.take_of_length_le (by simp; rw [HN.out]; omega)
      rw [hta] at hh'
      have hd := tdrop_in own' id p m L wr h' (by omega) (by rw [HN.out]; omega) hL
      rw [Int.toNat_natCast] at hd
      have HD := Lib.hid hd
      clear hd hq hta hje
      go_wp2_with fail
      refine HD.out.mono ?_
      rintro e w' ⟨own2, x2, rfl, h2⟩
      go_wp2_with fail
      go_ret
      exact ⟨own2, x.trans (x2.mono (by simp)), rfl, hh'.keep x2 (by simpa using hid), h2⟩

end Go.Proofs.Ytlmcfclonncgbaa
