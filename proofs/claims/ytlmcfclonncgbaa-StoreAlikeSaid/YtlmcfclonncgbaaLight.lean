/- Light of the reference (package elenchusref1): few nodes, not too deep: by a contract. -/
import Derived.Test.YtlmcfclonncgbaaTerm
import Derived.Test.YtlmcfclonncgbaaHeap
namespace Go.Proofs.Ytlmcfclonncgbaa
open Go.RowKit
set_option linter.unusedVariables false

theorem Tm.ind_aux {P : Tm → Prop} (h : ∀ k s n re im args, (∀ a ∈ args, P a) → P (.mk k s n re im args)) : ∀ N (t : Tm), _root_.SizeOf.sizeOf t ≤ N → P t
  | 0, .mk k s n re im args, hN => by simp at hN
  | N + 1, .mk k s n re im args, hN => h k s n re im args fun a ha => Tm.ind_aux h N a (by
      have := List.sizeOf_lt_of_mem ha
      simp at hN
      omega)
theorem Tm.ind {P : Tm → Prop} (h : ∀ k s n re im args, (∀ a ∈ args, P a) → P (.mk k s n re im args)) (t : Tm) : P t := Tm.ind_aux h _ t (Nat.le_refl _)
section
variable {own own' : Nat → Nat} {ids : List Nat} {w w' : World}
/-- One term of a slice, its six cells. -/
theorem TmL.at {l : List Tm} {b o len cap : Nat} (h : TmL own w l (some ⟨b, o, none⟩) len cap) (k : Nat) (hk : k < len) :
    ∃ t sl, l[k]? = some t ∧ TmS own w t sl ∧ w.cell? ⟨b, o + k * 6, none⟩ = some (.int .i64 t.kind) ∧ w.cell? ⟨b, o + k * 6 + 1, none⟩ = some (.string t.name) ∧ w.cell? ⟨b, o + k * 6 + 2, none⟩ = some (.int .i64 t.int) ∧
      w.cell? ⟨b, o + k * 6 + 3, none⟩ = some (.int .u64 t.re) ∧ w.cell? ⟨b, o + k * 6 + 4, none⟩ = some (.int .u64 t.im) ∧ w.cell? ⟨b, o + k * 6 + 5, none⟩ = some sl := by
  obtain ⟨t, b', o', sl, h1, he, h2, _, _, h3⟩ := h.get k hk
  simp at he
  obtain ⟨rfl, rfl⟩ := he
  exact ⟨t, sl, h1, h2, h3 0 _ rfl, h3 1 _ rfl, h3 2 _ rfl, h3 3 _ rfl, h3 4 _ rfl, h3 5 _ rfl⟩
theorem TmL.addr {l : List Tm} {A : Option Addr} {len cap : Nat} (h : TmL own w l A len cap) (hl : 0 < len) : ∃ b o, A = some ⟨b, o, none⟩ := by
  obtain ⟨t, b, o, sl, _, he, _⟩ := h.get 0 hl
  exact ⟨b, o, he⟩
end

theorem valT_mk (k n re im : Int) (s : ByteArray) (args : List Tm) (sl : Value) : valT (.mk k s n re im args) sl = .agg #[.int .i64 k, .string s, .int .i64 n, .int .u64 re, .int .u64 im, sl] := rfl
mutual
/-- Light: how many nodes may still come; below 0: none. -/
def lightF : Tm → Int → Int → Int
  | .mk k s n re im args, d, left => if left < 1 ∨ 700 < d ∨ 400 < s.size ∨ 60 < args.length then -1 else lightFs args (d + 1) (left - 1)
def lightFs : List Tm → Int → Int → Int
  | [], _, left => left
  | t :: ts, d, left => if lightF t d left < 0 then -1 else lightFs ts d (lightF t d left)
end
theorem lightFs_cons (t : Tm) (ts : List Tm) (d left : Int) : lightFs (t :: ts) d left = if lightF t d left < 0 then -1 else lightFs ts d (lightF t d left) := rfl
mutual
theorem lightF_le : ∀ (t : Tm) (d left : Int), -1 ≤ lightF t d left ∧ lightF t d left ≤ max left (-1)
  | .mk k s n re im args, d, left => by
    unfold lightF
    split
    · omega
    · have := lightFs_le args (d + 1) (left - 1) (by omega)
      omega
theorem lightFs_le : ∀ (l : List Tm) (d left : Int), -1 ≤ left → -1 ≤ lightFs l d left ∧ lightFs l d left ≤ max left (-1)
  | [], d, left, h => by unfold lightFs; omega
  | t :: ts, d, left, h => by
    have h1 := lightF_le t d left
    unfold lightFs
    split
    · omega
    · have := lightFs_le ts d (lightF t d left) h1.1
      omega
end

set_option maxHeartbeats 1600000 in
set_option maxRecDepth 100000 in
theorem light_any : ∀ (t : Tm) (sl : Value) (d left : Int) (own : Nat → Nat) (w : World), TmS own w t sl → 1 ≤ d → d ≤ 701 → -1 ≤ left → left ≤ 4000 →
    Calls Try.prog 83 #[valT t sl, .int .i64 d, .int .i64 left] w (Does own [] w fun own' e w' => e = .returned (.int .i64 (lightF t d left))) := by
  refine Tm.ind ?_
  intro k s n re im args ih sl d left own w h hd0 hd1 hl0 hl1
  obtain ⟨A, len, cap, rfl, hL⟩ := h.args
  obtain ⟨_, _, _, _, hsz⟩ := h.rng
  have hlen := hL.1
  have hle := hL.2.1
  have hmax := hL.2.2.1
  unfold maxLen at hmax hsz
  replace hL : TmL own w args A len cap := hL
  replace hlen : args.length = len := hlen
  replace hsz : s.size ≤ 2 ^ 63 - 1 := hsz
  rw [valT_mk]
  unfold lightF
  have hn0 : (0 : Int) ≤ (s.size : Int) := by omega
  by_cases h1 : left < 1
  · simp only [h1, true_or, if_true]
    go_enter Try.func83, Try.ntmps83
    go_wp2_with fail
    go_ret
    exact ⟨own, (Ext.refl _ _ _).alloc _, rfl⟩
  · by_cases h2 : 700 < d
    · simp only [h2, true_or, or_true, if_true]
      have h1' : 1 ≤ left := by omega
      go_enter Try.func83, Try.ntmps83
      go_wp2_with fail
      go_ret
      exact ⟨own, (Ext.refl _ _ _).alloc _, rfl⟩
    · have h1' : 1 ≤ left := by omega
      have h2' : d ≤ 700 := by omega
      by_cases h3 : 400 < s.size
      · simp only [h3, true_or, or_true, if_true]
        have h3' : (400 : Int) < (s.size : Int) := by omega
        go_enter Try.func83, Try.ntmps83
        go_wp2_with fail
        go_ret
        exact ⟨own, (Ext.refl _ _ _).alloc _, rfl⟩
      · have h3' : (s.size : Int) ≤ 400 := by omega
        by_cases h4 : 60 < args.length
        · simp only [h4, or_true, if_true]
          have h4' : (60 : Int) < (len : Int) := by omega
          go_enter Try.func83, Try.ntmps83
          go_wp2_with fail
          go_ret
          exact ⟨own, (Ext.refl _ _ _).alloc _, rfl⟩
        · have h4' : (len : Int) ≤ 60 := by omega
          rw [if_neg (by omega)]
          clear h1 h2 h3 h4
          have hgo : ∀ own' w', Ext own own' [] w w' → TmL own' w' args A len cap := fun own' w' x => hL.keep x (by simp)
          have HGO := Lib.hid hgo
          have HLEN := Lib.hid hlen
          have HIH := Lib.hid ih
          clear hgo hL hlen h ih
          go_enter Try.func83, Try.ntmps83
          go_wp2_with fail
          go_loopw [32, 2] (fun v u wr => ∃ (k : Nat) (left' : Int) (own' : Nat → Nat), v = .int .i64 k ∧ u = .int .i64 left' ∧ k ≤ len ∧ Ext own own' [] w wr ∧ 0 ≤ left' ∧ left' ≤ 4000 ∧ lightFs (args.drop k) (d + 1) left' = lightFs args (d + 1) (left - 1)) (fun v _ _ => len - (intOf v).toNat)
          case atStart => exact ⟨0, left - 1, own, rfl, by go_num, by omega, (Ext.refl _ _ _).alloc _, by omega, by omega, rfl⟩
          case round =>
            obtain ⟨k, left', own', rfl, rfl, hk, x, hle0, hle1, hinv⟩ := hrel
            by_cases hlt : k < len
            · have hL := HGO.out own' wr x
              obtain ⟨b, o, rfl⟩ := hL.addr (by omega)
              obtain ⟨t, sl, ht, hT, c0, c1, c2, c3, c4, c5⟩ := hL.at k hlt
              have hmem := List.mem_of_getElem? ht
              have hdrop : args.drop k = t :: args.drop (k + 1) := by rw [List.drop_eq_getElem_cons (List.getElem?_eq_some_iff.1 ht).1, (List.getElem?_eq_some_iff.1 ht).2]
              rw [hdrop] at hinv
              obtain ⟨A', l', cp', rfl, _⟩ := hT.args
              have hlf := lightF_le t (d + 1) left'
              have HINV := Lib.hid hinv
              have HT := Lib.hid hT
              have HM := Lib.hid hmem
              clear hinv hT hmem ht hdrop hL
              go_wp2_with fail
              refine (HIH.out t HM.out _ (d + 1) left' own' _ ?_ (by omega) (by omega) (by omega) (by omega)).mono ?_
              · exact TmS.keep ((Ext.refl own' [] wr).alloc _) (by simp) t _ HT.out
              rintro e w2 ⟨own2, x2, rfl⟩
              have hun := HINV.out
              rw [lightFs_cons] at hun
              by_cases hz : lightF t (d + 1) left' < 0
              · rw [if_pos hz] at hun
                have HU := Lib.hid hun
                clear hun
                go_wp2_with fail
                go_ret
                exact ⟨own2, (x.alloc _).trans x2, by rw [← HU.out]; rfl⟩
              · rw [if_neg hz] at hun
                have HU := Lib.hid hun
                clear hun
                have hz' : 0 ≤ lightF t (d + 1) left' := by omega
                go_wp2_with fail
                go_roundw
                case measure => simp [intOf]; omega
                exact ⟨k + 1, _, own2, by go_num, rfl, by omega, (x.alloc _).trans x2, hz', by omega, HU.out⟩
            · obtain rfl : k = len := by omega
              have hd : args.drop k = [] := List.drop_eq_nil_of_le (by rw [HLEN.out]; exact Nat.le_refl _)
              rw [hd] at hinv
              have HINV := Lib.hid hinv
              clear hinv hd
              go_wp2_with fail
              go_ret
              exact ⟨own', x, by rw [← HINV.out]; rfl⟩

end Go.Proofs.Ytlmcfclonncgbaa
