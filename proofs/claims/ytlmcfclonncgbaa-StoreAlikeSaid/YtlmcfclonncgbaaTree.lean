/- Terms as trees: what may be a term, how many nodes, the same. No program in sight. -/
import Derived.WalkKit
namespace Go.Proofs.Ytlmcfclonncgbaa
set_option linter.unusedVariables false

/-- A term as it lies in memory: all fields. -/
inductive Tm where
  | mk (kind : Int) (name : ByteArray) (int re im : Int) (args : List Tm)
namespace Tm
def kind : Tm → Int | .mk k _ _ _ _ _ => k
def name : Tm → ByteArray | .mk _ s _ _ _ _ => s
def int : Tm → Int | .mk _ _ n _ _ _ => n
def re : Tm → Int | .mk _ _ _ r _ _ => r
def im : Tm → Int | .mk _ _ _ _ i _ => i
def args : Tm → List Tm | .mk _ _ _ _ _ a => a
end Tm

/-- A term that may be, without what has no meaning. -/
inductive CT where
  | var (n : Int)
  | atom (s : ByteArray)
  | int (n : Int)
  | cpx (re im : Int)
  | comp (s : ByteArray) (args : List CT)

mutual
def cl : Tm → CT
  | .mk k s n re im args => if k = 1 then .var n else if k = 2 then .atom s else if k = 3 then .int n else if k = 4 then .cpx re im else .comp s (cls args)
def cls : List Tm → List CT
  | [] => []
  | t :: ts => cl t :: cls ts
end
theorem cls_map (l : List Tm) : cls l = l.map cl := by
  induction l with
  | nil => rfl
  | cons a l ih => simp [cls, ih]

mutual
/-- Plain: as it is built anew. -/
def un : CT → Tm
  | .var n => .mk 1 ByteArray.empty n 0 0 []
  | .atom s => .mk 2 s 0 0 0 []
  | .int n => .mk 3 ByteArray.empty n 0 0 []
  | .cpx re im => .mk 4 ByteArray.empty 0 re im []
  | .comp s args => .mk 5 s 0 0 0 (uns args)
def uns : List CT → List Tm
  | [] => []
  | t :: ts => un t :: uns ts
end
theorem uns_map (l : List CT) : uns l = l.map un := by
  induction l with
  | nil => rfl
  | cons a l ih => simp [uns, ih]
mutual
theorem cl_un : ∀ t : CT, cl (un t) = t
  | .var n => rfl
  | .atom s => rfl
  | .int n => rfl
  | .cpx re im => rfl
  | .comp s args => by
    show CT.comp s (cls (uns args)) = _
    rw [cls_uns args]
theorem cls_uns : ∀ l : List CT, cls (uns l) = l
  | [] => rfl
  | t :: ts => by simp only [uns, cls, cl_un t, cls_uns ts]
end

/-- What is wrong with a node, its arguments aside. -/
def oneE : Tm → Int
  | .mk k s n _ _ args =>
    if k < 1 ∨ 5 < k ∨ (k = 1 ∧ n < 0) ∨ (k = 5 ∧ args.length = 0) then 1
    else if ((k = 2 ∨ k = 5) ∧ 200 < s.size) ∨ (k = 5 ∧ 20 < args.length) then 3 else 0
mutual
/-- May: nodes so far, what is wrong. -/
def mayF : Tm → Nat → Nat × Int → Nat × Int
  | .mk k s n re im args, d, st =>
    if st.2 ≠ 0 then st
    else if 2000 < st.1 + 1 ∨ 500 < d then (st.1 + 1, 3)
    else if oneE (.mk k s n re im args) ≠ 0 then (st.1 + 1, oneE (.mk k s n re im args))
    else if k = 5 then mayFs args (d + 1) (st.1 + 1, 0) else (st.1 + 1, 0)
def mayFs : List Tm → Nat → Nat × Int → Nat × Int
  | [], _, st => st
  | t :: ts, d, st => mayFs ts d (mayF t d st)
end
def mayE (t : Tm) : Int := (mayF t 1 (0, 0)).2
def nodesN (t : Tm) : Nat := if mayE t = 0 then (mayF t 1 (0, 0)).1 else 0

mutual
def nodes : CT → Nat
  | .var _ => 1
  | .atom _ => 1
  | .int _ => 1
  | .cpx _ _ => 1
  | .comp _ args => nodesL args + 1
def nodesL : List CT → Nat
  | [] => 0
  | t :: ts => nodes t + nodesL ts
end
mutual
def depth : CT → Nat
  | .var _ => 1
  | .atom _ => 1
  | .int _ => 1
  | .cpx _ _ => 1
  | .comp _ args => depthL args + 1
def depthL : List CT → Nat
  | [] => 0
  | t :: ts => max (depth t) (depthL ts)
end
mutual
/-- Each node is as it may be. -/
def fine : CT → Prop
  | .var n => 0 ≤ n
  | .atom s => s.size ≤ 200
  | .int _ => True
  | .cpx _ _ => True
  | .comp s args => s.size ≤ 200 ∧ 1 ≤ args.length ∧ args.length ≤ 20 ∧ fines args
def fines : List CT → Prop
  | [] => True
  | t :: ts => fine t ∧ fines ts
end
/-- The kinds are 1 to 5, as far as a term is gone through. -/
inductive Kinds : Tm → Prop
  | leaf {k s n re im args} (h1 : 1 ≤ k) (h4 : k ≤ 4) : Kinds (.mk k s n re im args)
  | comp {s n re im args} (h : ∀ a ∈ args, Kinds a) : Kinds (.mk 5 s n re im args)

theorem mayF_err (t : Tm) (d n : Nat) (e : Int) (h : e ≠ 0) : mayF t d (n, e) = (n, e) := by
  cases t; unfold mayF; rw [if_pos h]
theorem mayFs_err : ∀ (l : List Tm) (d n : Nat) (e : Int), e ≠ 0 → mayFs l d (n, e) = (n, e)
  | [], _, _, _, _ => rfl
  | t :: ts, d, n, e, h => by unfold mayFs; rw [mayF_err t d n e h]; exact mayFs_err ts d n e h
theorem cls_length (l : List Tm) : (cls l).length = l.length := by rw [cls_map]; simp
theorem uns_length (l : List CT) : (uns l).length = l.length := by rw [uns_map]; simp

def Ok (d n : Nat) (t : CT) : Prop := fine t ∧ d + depth t ≤ 501 ∧ n + nodes t ≤ 2000
def Oks (d n : Nat) (l : List CT) : Prop := fines l ∧ (l ≠ [] → d + depthL l ≤ 501) ∧ n + nodesL l ≤ 2000

mutual
theorem depth_pos : ∀ t : CT, 1 ≤ depth t
  | .var _ => Nat.le_refl _
  | .atom _ => Nat.le_refl _
  | .int _ => Nat.le_refl _
  | .cpx _ _ => Nat.le_refl _
  | .comp _ args => by unfold depth; omega
theorem nodes_pos : ∀ t : CT, 1 ≤ nodes t
  | .var _ => Nat.le_refl _
  | .atom _ => Nat.le_refl _
  | .int _ => Nat.le_refl _
  | .cpx _ _ => Nat.le_refl _
  | .comp _ args => by unfold nodes; omega
end

theorem oneE_zero {k : Int} {s : ByteArray} {i re im : Int} {args : List Tm} : oneE (.mk k s i re im args) = 0 ↔ (1 ≤ k ∧ k ≤ 5 ∧ (k = 1 → 0 ≤ i) ∧ (k = 2 → s.size ≤ 200) ∧ (k = 5 → s.size ≤ 200 ∧ 1 ≤ args.length ∧ args.length ≤ 20)) := by
  unfold oneE
  dsimp only
  split
  · simp; omega
  · split
    · simp; omega
    · simp; omega

theorem cl_cases (k : Int) (s : ByteArray) (i re im : Int) (args : List Tm) (h1 : 1 ≤ k) (h5 : k ≤ 5) :
    (k = 1 ∧ cl (.mk k s i re im args) = .var i) ∨ (k = 2 ∧ cl (.mk k s i re im args) = .atom s) ∨ (k = 3 ∧ cl (.mk k s i re im args) = .int i) ∨ (k = 4 ∧ cl (.mk k s i re im args) = .cpx re im) ∨ (k = 5 ∧ cl (.mk k s i re im args) = .comp s (cls args)) := by
  by_cases k1 : k = 1
  · subst k1; exact Or.inl ⟨rfl, rfl⟩
  · by_cases k2 : k = 2
    · subst k2; exact Or.inr (Or.inl ⟨rfl, rfl⟩)
    · by_cases k3 : k = 3
      · subst k3; exact Or.inr (Or.inr (Or.inl ⟨rfl, rfl⟩))
      · by_cases k4 : k = 4
        · subst k4; exact Or.inr (Or.inr (Or.inr (Or.inl ⟨rfl, rfl⟩)))
        · obtain rfl : k = 5 := by omega
          exact Or.inr (Or.inr (Or.inr (Or.inr ⟨rfl, rfl⟩)))

mutual
/-- A term that may be: its nodes have been counted. -/
theorem mayF_ok : ∀ (t : Tm) (d n n' : Nat), mayF t d (n, 0) = (n', 0) → Kinds t ∧ Ok d n (cl t) ∧ n' = n + nodes (cl t)
  | .mk k s i re im args, d, n, n', h => by
    unfold mayF at h
    simp only [ne_eq, not_true_eq_false, if_false] at h
    split at h
    · simp at h
    · rename_i h1
      split at h
      · rename_i h2; simp only [Prod.mk.injEq] at h; exact absurd h.2 h2
      · rename_i h2
        have h2' : oneE (.mk k s i re im args) = 0 := Classical.not_not.1 h2
        obtain ⟨g1, g2, g3, g4, g5⟩ := oneE_zero.1 h2'
        split at h
        · rename_i h5
          subst h5
          obtain ⟨a, b, c⟩ := mayFs_ok args (d + 1) (n + 1) n' (by omega) h
          have hc : cl (.mk 5 s i re im args) = .comp s (cls args) := rfl
          have hl := cls_length args
          rw [hc]
          obtain ⟨b1, b2, b3⟩ := b
          unfold Ok
          simp only [fine, depth, nodes]
          have g5 := g5 rfl
          have hne : cls args ≠ [] := by intro e; rw [e] at hl; simp at hl; omega
          have := b2 hne
          exact ⟨.comp a, ⟨⟨by omega, by omega, by omega, b1⟩, by omega, by omega⟩, by omega⟩
        · rename_i h5
          simp only [Prod.mk.injEq, and_true] at h
          subst h
          refine ⟨.leaf (by omega) (by omega), ?_⟩
          unfold Ok
          rcases cl_cases k s i re im args g1 g2 with ⟨hk, hc⟩ | ⟨hk, hc⟩ | ⟨hk, hc⟩ | ⟨hk, hc⟩ | ⟨hk, hc⟩ <;> rw [hc] <;> simp only [fine, depth, nodes] <;> (try simp only [and_true, true_and]) <;> omega
theorem mayFs_ok : ∀ (l : List Tm) (d n n' : Nat), n ≤ 2000 → mayFs l d (n, 0) = (n', 0) → (∀ a ∈ l, Kinds a) ∧ Oks d n (cls l) ∧ n' = n + nodesL (cls l)
  | [], d, n, n', hn, h => by
    unfold mayFs at h
    simp only [Prod.mk.injEq, and_true] at h
    refine ⟨by simp, ⟨trivial, by simp [cls], ?_⟩, ?_⟩
    · simp only [cls, nodesL]; omega
    · simp only [cls, nodesL]; omega
  | t :: ts, d, n, n', hn, h => by
    unfold mayFs at h
    obtain ⟨n1, e1⟩ : ∃ p, mayF t d (n, 0) = p := ⟨_, rfl⟩
    rw [e1] at h
    obtain ⟨n1, e⟩ := n1
    by_cases he : e = 0
    · subst he
      obtain ⟨a1, ⟨a2, a3, a4⟩, a5⟩ := mayF_ok t d n n1 e1
      obtain ⟨b1, ⟨b2, b3, b4⟩, b5⟩ := mayFs_ok ts d n1 n' (by omega) h
      refine ⟨fun a ha => ?_, ⟨⟨a2, b2⟩, fun _ => ?_, ?_⟩, ?_⟩
      · rcases List.mem_cons.1 ha with rfl | ha
        · exact a1
        · exact b1 a ha
      · simp only [cls, depthL]
        by_cases hts : cls ts = []
        · rw [hts]; simp only [depthL]; omega
        · have := b3 hts; omega
      · simp only [cls, nodesL]; omega
      · simp only [cls, nodesL]; omega
    · rw [mayFs_err ts d n1 e he] at h
      simp only [Prod.mk.injEq] at h
      exact absurd h.2 he
end
mutual
theorem mayF_of : ∀ (t : Tm) (d n : Nat), Kinds t → Ok d n (cl t) → mayF t d (n, 0) = (n + nodes (cl t), 0)
  | .mk k s i re im args, d, n, hk, ⟨h1, h2, h3⟩ => by
    have hp := depth_pos (cl (.mk k s i re im args))
    have hn := nodes_pos (cl (.mk k s i re im args))
    unfold mayF
    simp only [ne_eq, not_true_eq_false, if_false]
    rw [if_neg (by omega)]
    have hr : 1 ≤ k ∧ k ≤ 5 := by
      cases hk with
      | leaf a b => omega
      | comp _ => omega
    have h0 : oneE (.mk k s i re im args) = 0 := by
      rw [oneE_zero]
      rcases cl_cases k s i re im args hr.1 hr.2 with ⟨hk, hc⟩ | ⟨hk, hc⟩ | ⟨hk, hc⟩ | ⟨hk, hc⟩ | ⟨hk, hc⟩ <;> rw [hc] at h1 <;> simp only [fine] at h1
      · omega
      · omega
      · omega
      · omega
      · have := cls_length args; omega
    rw [if_neg (by simp [h0])]
    by_cases h5 : k = 5
    · subst h5
      rw [if_pos rfl]
      have hc : cl (.mk 5 s i re im args) = .comp s (cls args) := rfl
      rw [hc] at h1 h2 h3 ⊢
      simp only [fine, depth, nodes] at h1 h2 h3 ⊢
      have ha : ∀ a ∈ args, Kinds a := by
        cases hk with
        | leaf a b => omega
        | comp h => exact h
      rw [mayFs_of args (d + 1) (n + 1) ha ⟨h1.2.2.2, fun _ => by omega, by omega⟩]
      congr 1
      omega
    · rw [if_neg h5]
      rcases cl_cases k s i re im args hr.1 hr.2 with ⟨hk, hc⟩ | ⟨hk, hc⟩ | ⟨hk, hc⟩ | ⟨hk, hc⟩ | ⟨hk, hc⟩
      · rw [hc]; simp only [nodes]
      · rw [hc]; simp only [nodes]
      · rw [hc]; simp only [nodes]
      · rw [hc]; simp only [nodes]
      · omega
theorem mayFs_of : ∀ (l : List Tm) (d n : Nat), (∀ a ∈ l, Kinds a) → Oks d n (cls l) → mayFs l d (n, 0) = (n + nodesL (cls l), 0)
  | [], d, n, _, _ => rfl
  | t :: ts, d, n, hk, ⟨h1, h2, h3⟩ => by
    have h2 := h2 (by simp [cls])
    simp only [cls, fines, depthL, nodesL] at h1 h2 h3 ⊢
    unfold mayFs
    rw [mayF_of t d n (hk t (by simp)) ⟨h1.1, by omega, by omega⟩, mayFs_of ts d (n + nodes (cl t)) (fun a ha => hk a (by simp [ha])) ⟨h1.2, fun _ => by omega, by omega⟩]
    congr 1
    omega
end
mutual
theorem kinds_un : ∀ t : CT, Kinds (un t)
  | .var n => .leaf (by omega) (by omega)
  | .atom s => .leaf (by omega) (by omega)
  | .int n => .leaf (by omega) (by omega)
  | .cpx re im => .leaf (by omega) (by omega)
  | .comp s args => .comp (kinds_uns args)
theorem kinds_uns : ∀ l : List CT, ∀ a ∈ uns l, Kinds a
  | [] => by simp [uns]
  | t :: ts => by
    intro a ha
    simp only [uns, List.mem_cons] at ha
    rcases ha with rfl | ha
    · exact kinds_un t
    · exact kinds_uns ts a ha
end
/-- A term that may be. -/
def Good (t : CT) : Prop := fine t ∧ depth t ≤ 500 ∧ nodes t ≤ 2000
theorem mayE_zero {t : Tm} : mayE t = 0 ↔ Kinds t ∧ Good (cl t) := by
  unfold mayE
  constructor
  · intro h
    obtain ⟨a, ⟨b1, b2, b3⟩, _⟩ := mayF_ok t 1 0 (mayF t 1 (0, 0)).1 (Prod.ext rfl h)
    exact ⟨a, b1, by omega, by omega⟩
  · rintro ⟨a, b1, b2, b3⟩
    rw [mayF_of t 1 0 a ⟨b1, by omega, by omega⟩]
theorem nodesN_ok {t : Tm} (h : mayE t = 0) : nodesN t = nodes (cl t) := by
  unfold nodesN
  rw [if_pos h]
  obtain ⟨a, b1, b2, b3⟩ := mayE_zero.1 h
  rw [mayF_of t 1 0 a ⟨b1, by omega, by omega⟩]
  simp
theorem mayE_un {t : CT} (h : Good t) : mayE (un t) = 0 := mayE_zero.2 ⟨kinds_un t, by rw [cl_un]; exact h⟩

mutual
/-- Like: the same, of terms that may be. -/
def likeB : Tm → Tm → Bool
  | .mk k s n re im args, .mk k' s' n' re' im' args' =>
    if k ≠ k' then false
    else if k = 1 ∨ k = 3 then decide (n = n')
    else if k = 2 then decide (s = s')
    else if k = 4 then decide (re = re') && decide (im = im')
    else if s ≠ s' ∨ args.length ≠ args'.length then false
    else likeBs args args'
def likeBs : List Tm → List Tm → Bool
  | a :: as, b :: bs => likeB a b && likeBs as bs
  | _, _ => true
end
mutual
theorem like_iff : ∀ (a b : Tm), Kinds a → Kinds b → (likeB a b = true ↔ cl a = cl b)
  | .mk k s n re im args, .mk k' s' n' re' im' args', ha, hb => by
    have hr : 1 ≤ k ∧ k ≤ 5 := by cases ha with | leaf a b => omega | comp _ => omega
    have hr' : 1 ≤ k' ∧ k' ≤ 5 := by cases hb with | leaf a b => omega | comp _ => omega
    unfold likeB
    by_cases hk : k = k'
    · subst hk
      rw [if_neg (by simp)]
      rcases cl_cases k s n re im args hr.1 hr.2 with ⟨hk, hc⟩ | ⟨hk, hc⟩ | ⟨hk, hc⟩ | ⟨hk, hc⟩ | ⟨hk, hc⟩
      · subst hk; rw [hc]; simp [cl]
      · subst hk; rw [hc]; simp [cl]
      · subst hk; rw [hc]; simp [cl]
      · subst hk; rw [hc]; simp [cl]
      · subst hk; rw [hc]
        have hc' : cl (.mk 5 s' n' re' im' args') = .comp s' (cls args') := rfl
        rw [hc']
        simp only [CT.comp.injEq]
        rw [if_neg (by omega), if_neg (by omega), if_neg (by omega)]
        have h1 : ∀ a ∈ args, Kinds a := by cases ha with | leaf a b => omega | comp h => exact h
        have h2 : ∀ a ∈ args', Kinds a := by cases hb with | leaf a b => omega | comp h => exact h
        by_cases hs : s = s'
        · by_cases hl : args.length = args'.length
          · rw [if_neg (by simp [hs, hl]), likes_iff args args' h1 h2 hl]
            simp [hs]
          · rw [if_pos (Or.inr hl)]
            simp only [Bool.false_eq_true, false_iff, not_and]
            intro _ e
            have := congrArg List.length e
            rw [cls_length, cls_length] at this
            exact hl this
        · rw [if_pos (Or.inl hs)]
          simp [hs]
    · rw [if_pos (by exact hk)]
      simp only [Bool.false_eq_true, false_iff]
      intro e
      rcases cl_cases k s n re im args hr.1 hr.2 with ⟨hk1, hc⟩ | ⟨hk1, hc⟩ | ⟨hk1, hc⟩ | ⟨hk1, hc⟩ | ⟨hk1, hc⟩ <;>
      rcases cl_cases k' s' n' re' im' args' hr'.1 hr'.2 with ⟨hk2, hc'⟩ | ⟨hk2, hc'⟩ | ⟨hk2, hc'⟩ | ⟨hk2, hc'⟩ | ⟨hk2, hc'⟩ <;> rw [hc, hc'] at e <;> first | (cases e; done) | omega
theorem likes_iff : ∀ (l m : List Tm), (∀ a ∈ l, Kinds a) → (∀ a ∈ m, Kinds a) → l.length = m.length → (likeBs l m = true ↔ cls l = cls m)
  | [], [], _, _, _ => by simp [likeBs, cls]
  | [], _ :: _, _, _, h => by simp at h
  | _ :: _, [], _, _, h => by simp at h
  | a :: as, b :: bs, h1, h2, hl => by
    unfold likeBs
    simp only [cls, List.cons.injEq, Bool.and_eq_true]
    rw [like_iff a b (h1 a (by simp)) (h2 b (by simp)), likes_iff as bs (fun x hx => h1 x (by simp [hx])) (fun x hx => h2 x (by simp [hx])) (by simpa using hl)]
end
/-- Same. -/
def sameB (a b : Tm) : Bool := decide (mayE a = 0) && decide (mayE b = 0) && likeB a b
theorem same_iff {a b : Tm} : sameB a b = true ↔ mayE a = 0 ∧ mayE b = 0 ∧ cl a = cl b := by
  unfold sameB
  simp only [Bool.and_eq_true, decide_eq_true_eq, and_assoc]
  constructor
  · rintro ⟨h1, h2, h3⟩
    exact ⟨h1, h2, (like_iff a b (mayE_zero.1 h1).1 (mayE_zero.1 h2).1).1 h3⟩
  · rintro ⟨h1, h2, h3⟩
    exact ⟨h1, h2, (like_iff a b (mayE_zero.1 h1).1 (mayE_zero.1 h2).1).2 h3⟩
end Go.Proofs.Ytlmcfclonncgbaa
