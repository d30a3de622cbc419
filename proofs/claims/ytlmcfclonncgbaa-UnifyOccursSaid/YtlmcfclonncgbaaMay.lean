/- May of the reference (package elenchusref1), by a contract. -/
import Derived.Test.YtlmcfclonncgbaaPk3
namespace Go.Proofs.Ytlmcfclonncgbaa
open Go.RowKit
set_option linter.unusedVariables false

theorem mayF_mk (k : Int) (s : ByteArray) (n re im : Int) (args : List Tm) (d m : Nat) (e : Int) : mayF (.mk k s n re im args) d (m, e) =
    (if e ≠ 0 then (m, e) else if 2000 < m + 1 ∨ 500 < d then (m + 1, 3) else if oneE (.mk k s n re im args) ≠ 0 then (m + 1, oneE (.mk k s n re im args)) else if k = 5 then mayFs args (d + 1) (m + 1, 0) else (m + 1, 0)) := rfl
theorem oneE_mk (k : Int) (s : ByteArray) (n re im : Int) (args : List Tm) : oneE (.mk k s n re im args) =
    (if k < 1 ∨ 5 < k ∨ (k = 1 ∧ n < 0) ∨ (k = 5 ∧ args.length = 0) then 1 else if ((k = 2 ∨ k = 5) ∧ 200 < s.size) ∨ (k = 5 ∧ 20 < args.length) then 3 else 0) := rfl
/-- A count and what was wrong, as they may be. -/
def Cnt (st : Nat × Int) : Prop := st.1 ≤ 2001 ∧ (st.2 = 0 → st.1 ≤ 2000) ∧ 0 ≤ st.2 ∧ st.2 ≤ 3
mutual
theorem mayF_cnt : ∀ (t : Tm) (d : Nat) (st : Nat × Int), Cnt st → Cnt (mayF t d st)
  | .mk k s n re im args, d, (m, e), h => by
    obtain ⟨h1, h2, h3, h4⟩ := h
    dsimp only at h1 h2 h3 h4
    rw [mayF_mk]
    split
    · exact ⟨h1, h2, h3, h4⟩
    · rename_i he
      have he' : e = 0 := Classical.not_not.1 he
      have := h2 he'
      split
      · exact ⟨by dsimp only; omega, fun h => by simp at h, by simp, by simp⟩
      · split
        · rename_i h5 h6
          have h0 : 0 ≤ oneE (.mk k s n re im args) ∧ oneE (.mk k s n re im args) ≤ 3 := by
            rw [oneE_mk]
            split
            · omega
            · split <;> omega
          exact ⟨by dsimp only; omega, fun h => absurd h h6, h0.1, h0.2⟩
        · split
          · exact mayFs_cnt args (d + 1) _ ⟨by dsimp only; omega, fun _ => by dsimp only; omega, by simp, by simp⟩
          · exact ⟨by dsimp only; omega, fun _ => by dsimp only; omega, by simp, by simp⟩
theorem mayFs_cnt : ∀ (l : List Tm) (d : Nat) (st : Nat × Int), Cnt st → Cnt (mayFs l d st)
  | [], _, st, h => h
  | t :: ts, d, st, h => mayFs_cnt ts d _ (mayF_cnt t d st h)
end

set_option maxHeartbeats 3200000 in
set_option maxRecDepth 100000 in
theorem may_any : ∀ (t : Tm) (sl : Value) (d : Nat) (st : Nat × Int) (own : Nat → Nat) (id p : Nat) (w : World), TmS own w t sl → id ≠ 0 → Blk own id w p [.int .i64 st.1, .int .i64 st.2] 117 → d ≤ 501 → Cnt st →
    Calls Try.prog 84 #[.pointer (some ⟨p, 0, none⟩), valT t sl, .int .i64 d] w
      (Does own [id] w fun own' e w' => e = .returned (.tuple #[]) ∧ Blk own' id w' p [.int .i64 (mayF t d st).1, .int .i64 (mayF t d st).2] 117) := by
  refine Tm.ind ?_
  intro k s n re im args ih sl d st own id p w h hid hb hd hc
  obtain ⟨m, e⟩ := st
  obtain ⟨hc1, hc2, hc3, hc4⟩ := hc
  dsimp only at *
  obtain ⟨A, len, cap, rfl, hL⟩ := h.args
  obtain ⟨_, _, _, _, hsz⟩ := h.rng
  replace hL : TmL own w args A len cap := hL
  have hlen := hL.1
  have hle := hL.2.1
  have hmax := hL.2.2.1
  unfold maxLen at hmax
  replace hsz : s.size ≤ 2 ^ 63 - 1 := hsz
  rw [valT_mk, mayF_mk]
  have hn0 : (0 : Int) ≤ (s.size : Int) := by omega
  have c0 := hb.cell 0 rfl
  have c1 := hb.cell 1 rfl
  have f0 := hb.free 0
  have f1 := hb.free 1
  have hplt := hb.lt
  by_cases he : e = 0
  · subst he
    rw [if_neg (by simp)]
    have hm := hc2 rfl
    by_cases h1 : 2000 < m + 1 ∨ 500 < d
    · rw [if_pos h1]
      go_enter Try.func84, Try.ntmps84
      rcases h1 with h1 | h1
      · have h1a : (2000 : Int) < (m : Int) + 1 := by omega
        go_wp2_with fail
        go_end0
        first | (exact ⟨own, ((((Ext.refl own [id] w).setCell _ _ (fun _ => by show own p ∈ [id]; rw [hb.2]; simp)).setCell _ _ (fun _ => by show own p ∈ [id]; rw [hb.2]; simp)).alloc _), rfl, ((hb.set 0 _).set 1 _).alloc _⟩) | (exact ⟨own, ((Ext.refl own [id] w).setCell _ _ (fun _ => by show own p ∈ [id]; rw [hb.2]; simp)).alloc _, rfl, (hb.set 0 _).alloc _⟩)
      · have h1a : (500 : Int) < (d : Int) := by omega
        go_wp2_with fail
        all_goals go_end0
        all_goals (first | (exact ⟨own, ((((Ext.refl own [id] w).setCell _ _ (fun _ => by show own p ∈ [id]; rw [hb.2]; simp)).setCell _ _ (fun _ => by show own p ∈ [id]; rw [hb.2]; simp)).alloc _), rfl, ((hb.set 0 _).set 1 _).alloc _⟩) | (exact ⟨own, ((Ext.refl own [id] w).setCell _ _ (fun _ => by show own p ∈ [id]; rw [hb.2]; simp)).alloc _, rfl, (hb.set 0 _).alloc _⟩))
    · rw [if_neg h1]
      have h1a : (m : Int) + 1 ≤ 2000 := by omega
      have h1b : (d : Int) ≤ 500 := by omega
      by_cases k5 : k = 5
      · subst k5
        by_cases h2 : len = 0
        · have h2' : args.length = 0 := by omega
          have hE : oneE (.mk 5 s n re im args) = 1 := by rw [oneE_mk]; split <;> (try split) <;> first | rfl | omega
          rw [hE, if_pos (by decide)]
          subst h2
          go_enter Try.func84, Try.ntmps84
          go_wp2_with fail
          go_end0
          first | (exact ⟨own, ((((Ext.refl own [id] w).setCell _ _ (fun _ => by show own p ∈ [id]; rw [hb.2]; simp)).setCell _ _ (fun _ => by show own p ∈ [id]; rw [hb.2]; simp)).alloc _), rfl, ((hb.set 0 _).set 1 _).alloc _⟩) | (exact ⟨own, ((Ext.refl own [id] w).setCell _ _ (fun _ => by show own p ∈ [id]; rw [hb.2]; simp)).alloc _, rfl, (hb.set 0 _).alloc _⟩)
        · have h2' : args.length ≠ 0 := by omega
          have h2a : ((len : Int) == 0) = false := by simp; omega
          by_cases h3 : 200 < s.size
          · have hE : oneE (.mk 5 s n re im args) = 3 := by rw [oneE_mk]; split <;> (try split) <;> first | rfl | omega
            rw [hE, if_pos (by decide)]
            have h3' : (200 : Int) < (s.size : Int) := by omega
            go_enter Try.func84, Try.ntmps84
            go_wp2_with fail
            go_end0
            first | (exact ⟨own, ((((Ext.refl own [id] w).setCell _ _ (fun _ => by show own p ∈ [id]; rw [hb.2]; simp)).setCell _ _ (fun _ => by show own p ∈ [id]; rw [hb.2]; simp)).alloc _), rfl, ((hb.set 0 _).set 1 _).alloc _⟩) | (exact ⟨own, ((Ext.refl own [id] w).setCell _ _ (fun _ => by show own p ∈ [id]; rw [hb.2]; simp)).alloc _, rfl, (hb.set 0 _).alloc _⟩)
          · have h3' : (s.size : Int) ≤ 200 := by omega
            by_cases h4 : 20 < args.length
            · have hE : oneE (.mk 5 s n re im args) = 3 := by rw [oneE_mk]; split <;> (try split) <;> first | rfl | omega
              rw [hE, if_pos (by decide)]
              have h4' : (20 : Int) < (len : Int) := by omega
              go_enter Try.func84, Try.ntmps84
              go_wp2_with fail
              go_end0
              first | (exact ⟨own, ((((Ext.refl own [id] w).setCell _ _ (fun _ => by show own p ∈ [id]; rw [hb.2]; simp)).setCell _ _ (fun _ => by show own p ∈ [id]; rw [hb.2]; simp)).alloc _), rfl, ((hb.set 0 _).set 1 _).alloc _⟩) | (exact ⟨own, ((Ext.refl own [id] w).setCell _ _ (fun _ => by show own p ∈ [id]; rw [hb.2]; simp)).alloc _, rfl, (hb.set 0 _).alloc _⟩)
            · have h4' : (len : Int) ≤ 20 := by omega
              have hE : oneE (.mk 5 s n re im args) = 0 := by rw [oneE_mk]; split <;> (try split) <;> first | rfl | omega
              rw [hE, if_neg (by decide), if_pos rfl]
              have hgo : ∀ own' w', Ext own own' [id] w w' → TmL own' w' args A len cap := fun own' w' x => hL.keep x (by simpa using hid.symm)
              have HGO := Lib.hid hgo
              have HLEN := Lib.hid hlen
              have HIH := Lib.hid ih
              have hb1 : Blk own id ((w.setCell ⟨p, 0, none⟩ (.int .i64 ((m : Int) + 1))).alloc (.cells #[.int .i64 5, .string s, .int .i64 n, .int .u64 re, .int .u64 im, .slice A len cap] 25)) p [.int .i64 ((m : Int) + 1), .int .i64 0] 117 := (hb.set 0 _).alloc _
              have x1 : Ext own own [id] w ((w.setCell ⟨p, 0, none⟩ (.int .i64 ((m : Int) + 1))).alloc (.cells #[.int .i64 5, .string s, .int .i64 n, .int .u64 re, .int .u64 im, .slice A len cap] 25)) := ((Ext.refl own [id] w).setCell _ _ (fun _ => by show own p ∈ [id]; rw [hb.2]; simp)).alloc _
              have HB1 := Lib.hid (And.intro x1 hb1)
              clear hgo hL hlen h ih x1 hb1 h2 h2' h3 h4 h1
              go_enter Try.func84, Try.ntmps84
              go_wp2_with fail
              go_loopw [108] (fun v wr => ∃ (k : Nat) (own' : Nat → Nat) (st : Nat × Int), v = .int .i64 k ∧ k ≤ len ∧ Ext own own' [id] w wr ∧ Blk own' id wr p [.int .i64 st.1, .int .i64 st.2] 117 ∧ Cnt st ∧ mayFs (args.drop k) (d + 1) st = mayFs args (d + 1) (m + 1, 0)) (fun v _ => len - (intOf v).toNat)
              case atStart => exact ⟨0, own, (m + 1, 0), rfl, by omega, HB1.out.1, HB1.out.2, ⟨by dsimp only; omega, fun _ => by dsimp only; omega, by simp, by simp⟩, rfl⟩
              case round =>
                obtain ⟨k, own', st, rfl, hk, x, hbk, hcnt, hinv⟩ := hrel
                by_cases hlt : k < len
                · have hL := HGO.out own' wr x
                  obtain ⟨b, o, rfl⟩ := hL.addr (by omega)
                  obtain ⟨t, sl, ht, hT, c0, c1, c2, c3, c4, c5⟩ := hL.at k hlt
                  have hmem := List.mem_of_getElem? ht
                  have hdrop : args.drop k = t :: args.drop (k + 1) := by rw [List.drop_eq_getElem_cons (List.getElem?_eq_some_iff.1 ht).1, (List.getElem?_eq_some_iff.1 ht).2]
                  rw [hdrop] at hinv
                  obtain ⟨A', l', cp', rfl, _⟩ := hT.args
                  have HINV := Lib.hid hinv
                  have HT := Lib.hid hT
                  have HM := Lib.hid hmem
                  have HBK := Lib.hid hbk
                  clear hinv hT hmem ht hdrop hL hbk hb f0 f1
                  go_wp2_with fail
                  refine (HIH.out t HM.out _ (d + 1) st own' id p _ ?_ hid (HBK.out.alloc _) (by omega) hcnt).mono ?_
                  · exact TmS.keep ((Ext.refl own' [] wr).alloc _) (by simp) t _ HT.out
                  rintro e w2 ⟨own2, x2, rfl, hb2⟩
                  go_wp2_with fail
                  go_roundw
                  case measure => simp [intOf]; omega
                  exact ⟨k + 1, own2, _, by go_num, by omega, (x.alloc _).trans x2, hb2, mayF_cnt t (d + 1) st hcnt, HINV.out⟩
                · obtain rfl : k = len := by omega
                  have hd : args.drop k = [] := List.drop_eq_nil_of_le (by rw [HLEN.out]; exact Nat.le_refl _)
                  rw [hd] at hinv
                  have hinv' : st = mayFs args (d + 1) (m + 1, 0) := hinv
                  have HINV := Lib.hid hinv'
                  clear hinv hinv' hd
                  go_wp2_with fail
                  go_end0
                  exact ⟨own', x, rfl, by rw [← HINV.out]; exact hbk⟩
      · have k5' : (k == 5) = false := by simpa using k5
        by_cases h2 : k < 1 ∨ 5 < k ∨ (k = 1 ∧ n < 0)
        · have hE : oneE (.mk k s n re im args) = 1 := by rw [oneE_mk]; split <;> (try split) <;> first | rfl | omega
          rw [hE, if_pos (by decide)]
          rcases h2 with h2 | h2 | ⟨h2, h3⟩
          · go_enter Try.func84, Try.ntmps84
            go_wp2_with fail
            go_end0
            first | (exact ⟨own, ((((Ext.refl own [id] w).setCell _ _ (fun _ => by show own p ∈ [id]; rw [hb.2]; simp)).setCell _ _ (fun _ => by show own p ∈ [id]; rw [hb.2]; simp)).alloc _), rfl, ((hb.set 0 _).set 1 _).alloc _⟩) | (exact ⟨own, ((Ext.refl own [id] w).setCell _ _ (fun _ => by show own p ∈ [id]; rw [hb.2]; simp)).alloc _, rfl, (hb.set 0 _).alloc _⟩)
          · have h2' : 1 ≤ k := by omega
            go_enter Try.func84, Try.ntmps84
            go_wp2_with fail
            all_goals go_end0
            all_goals (first | (exact ⟨own, ((((Ext.refl own [id] w).setCell _ _ (fun _ => by show own p ∈ [id]; rw [hb.2]; simp)).setCell _ _ (fun _ => by show own p ∈ [id]; rw [hb.2]; simp)).alloc _), rfl, ((hb.set 0 _).set 1 _).alloc _⟩) | (exact ⟨own, ((Ext.refl own [id] w).setCell _ _ (fun _ => by show own p ∈ [id]; rw [hb.2]; simp)).alloc _, rfl, (hb.set 0 _).alloc _⟩))
          · subst h2
            go_enter Try.func84, Try.ntmps84
            go_wp2_with fail
            go_end0
            first | (exact ⟨own, ((((Ext.refl own [id] w).setCell _ _ (fun _ => by show own p ∈ [id]; rw [hb.2]; simp)).setCell _ _ (fun _ => by show own p ∈ [id]; rw [hb.2]; simp)).alloc _), rfl, ((hb.set 0 _).set 1 _).alloc _⟩) | (exact ⟨own, ((Ext.refl own [id] w).setCell _ _ (fun _ => by show own p ∈ [id]; rw [hb.2]; simp)).alloc _, rfl, (hb.set 0 _).alloc _⟩)
        · have h2a : 1 ≤ k := by omega
          have h2b : k ≤ 5 := by omega
          by_cases k2 : k = 2
          · subst k2
            by_cases h3 : 200 < s.size
            · have h3' : (200 : Int) < (s.size : Int) := by omega
              have hE : oneE (.mk 2 s n re im args) = 3 := by rw [oneE_mk]; split <;> (try split) <;> first | rfl | omega
              rw [hE, if_pos (by decide)]
              go_enter Try.func84, Try.ntmps84
              go_wp2_with fail
              go_end0
              first | (exact ⟨own, ((((Ext.refl own [id] w).setCell _ _ (fun _ => by show own p ∈ [id]; rw [hb.2]; simp)).setCell _ _ (fun _ => by show own p ∈ [id]; rw [hb.2]; simp)).alloc _), rfl, ((hb.set 0 _).set 1 _).alloc _⟩) | (exact ⟨own, ((Ext.refl own [id] w).setCell _ _ (fun _ => by show own p ∈ [id]; rw [hb.2]; simp)).alloc _, rfl, (hb.set 0 _).alloc _⟩)
            · have h3' : (s.size : Int) ≤ 200 := by omega
              have hE : oneE (.mk 2 s n re im args) = 0 := by rw [oneE_mk]; split <;> (try split) <;> first | rfl | omega
              rw [hE, if_neg (by decide), if_neg (by decide)]
              go_enter Try.func84, Try.ntmps84
              go_wp2_with fail
              go_end0
              first | (exact ⟨own, ((((Ext.refl own [id] w).setCell _ _ (fun _ => by show own p ∈ [id]; rw [hb.2]; simp)).setCell _ _ (fun _ => by show own p ∈ [id]; rw [hb.2]; simp)).alloc _), rfl, ((hb.set 0 _).set 1 _).alloc _⟩) | (exact ⟨own, ((Ext.refl own [id] w).setCell _ _ (fun _ => by show own p ∈ [id]; rw [hb.2]; simp)).alloc _, rfl, (hb.set 0 _).alloc _⟩)
          · have k2' : (k == 2) = false := by simpa using k2
            have hE : oneE (.mk k s n re im args) = 0 := by rw [oneE_mk]; split <;> (try split) <;> first | rfl | omega
            rw [hE, if_neg (by decide), if_neg k5]
            by_cases k1 : k = 1
            · subst k1
              have h3 : 0 ≤ n := by omega
              go_enter Try.func84, Try.ntmps84
              go_wp2_with fail
              go_end0
              first | (exact ⟨own, ((((Ext.refl own [id] w).setCell _ _ (fun _ => by show own p ∈ [id]; rw [hb.2]; simp)).setCell _ _ (fun _ => by show own p ∈ [id]; rw [hb.2]; simp)).alloc _), rfl, ((hb.set 0 _).set 1 _).alloc _⟩) | (exact ⟨own, ((Ext.refl own [id] w).setCell _ _ (fun _ => by show own p ∈ [id]; rw [hb.2]; simp)).alloc _, rfl, (hb.set 0 _).alloc _⟩)
            · have k1' : (k == 1) = false := by simpa using k1
              go_enter Try.func84, Try.ntmps84
              go_wp2_with fail
              go_end0
              first | (exact ⟨own, ((((Ext.refl own [id] w).setCell _ _ (fun _ => by show own p ∈ [id]; rw [hb.2]; simp)).setCell _ _ (fun _ => by show own p ∈ [id]; rw [hb.2]; simp)).alloc _), rfl, ((hb.set 0 _).set 1 _).alloc _⟩) | (exact ⟨own, ((Ext.refl own [id] w).setCell _ _ (fun _ => by show own p ∈ [id]; rw [hb.2]; simp)).alloc _, rfl, (hb.set 0 _).alloc _⟩)
  · rw [if_pos he]
    have he' : (e == 0) = false := by simpa using he
    go_enter Try.func84, Try.ntmps84
    go_wp2_with fail
    go_end0
    exact ⟨own, (Ext.refl _ _ _).alloc _, rfl, hb.alloc _⟩

end Go.Proofs.Ytlmcfclonncgbaa
