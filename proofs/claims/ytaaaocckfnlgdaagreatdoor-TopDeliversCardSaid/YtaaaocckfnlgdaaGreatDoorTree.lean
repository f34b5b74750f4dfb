/- Plain facts on trees of classes: what is above a class. -/
import Derived.Test.YtaaaocckfnlgdaaGreatDoorWWords
namespace Go.Proofs.YtaaaocckfnlgdaaGreatDoorU
open Go Go.Proofs.YtaaaocckfnlgdaaGreatDoorW.PrintWords
set_option linter.unusedVariables false

/-! ### plain -/
/-- A tree of classes: 1 to 16 of them, each one's parent -1 or a class of a smaller number. -/
def Tree (ps : List Int) : Prop := 1 ≤ ps.length ∧ ps.length ≤ 16 ∧ ∀ i : Nat, i < ps.length → -1 ≤ ps.getD i 0 ∧ ps.getD i 0 < (i : Int)
instance (ps : List Int) : Decidable (Tree ps) := by unfold Tree; infer_instance
def treeB (ps : List Int) : Bool := decide (Tree ps)
/-- From a on upwards, n rounds at most. -/
def chain (ps : List Int) : Nat → Int → List Int
  | 0, _ => []
  | n + 1, a => if 0 ≤ a then a :: chain ps n (rd ps a) else []
/-- What is above a. -/
def upL (ps : List Int) (a : Int) : List Int := if a < (ps.length : Int) ∧ treeB ps = true then chain ps (a.toNat + 1) a else []

theorem tree_rd {ps : List Int} (h : Tree ps) {a : Int} (h0 : 0 ≤ a) (h1 : a < (ps.length : Int)) : -1 ≤ rd ps a ∧ rd ps a < a := by
  have := h.2.2 a.toNat (by omega)
  unfold rd
  omega
theorem chain_more {ps : List Int} (h : Tree ps) (n : Nat) : ∀ (m : Nat) (a : Int), a < (ps.length : Int) → a < (n : Int) → a < (m : Int) → chain ps n a = chain ps m a := by
  induction n with
  | zero =>
    intro m a hl hn hm
    cases m with
    | zero => rfl
    | succ m => simp only [chain]; rw [if_neg (by omega)]
  | succ n ih =>
    intro m a hl hn hm
    cases m with
    | zero => simp only [chain]; rw [if_neg (by omega)]
    | succ m =>
      simp only [chain]
      by_cases h0 : 0 ≤ a
      · have := tree_rd h h0 hl
        rw [if_pos h0, if_pos h0, ih m _ (by omega) (by omega) (by omega)]
      · rw [if_neg h0, if_neg h0]
theorem chain_step {ps : List Int} (h : Tree ps) {a : Int} (h0 : 0 ≤ a) (hl : a < (ps.length : Int)) : chain ps (a.toNat + 1) a = a :: chain ps ((rd ps a).toNat + 1) (rd ps a) := by
  have := tree_rd h h0 hl
  rw [chain, if_pos h0, chain_more h _ ((rd ps a).toNat + 1) _ (by omega) (by omega) (by omega)]
theorem chain_end {ps : List Int} {n : Nat} {a : Int} (h : a < 0) : chain ps n a = [] := by
  cases n with
  | zero => rfl
  | succ n => simp only [chain]; rw [if_neg (by omega)]
theorem chain_length {ps : List Int} (n : Nat) : ∀ a, (chain ps n a).length ≤ n := by
  induction n with
  | zero => exact fun a => Nat.le_refl _
  | succ n ih =>
    intro a
    simp only [chain]
    split
    · have := ih (rd ps a); simp; omega
    · simp
theorem upL_length (ps : List Int) (a : Int) : (upL ps a).length ≤ 16 := by
  unfold upL
  split
  · rename_i h
    have hl := chain_length (ps := ps) (a.toNat + 1) a
    have ht : Tree ps := of_decide_eq_true h.2
    have := ht.2.1
    by_cases h0 : 0 ≤ a
    · omega
    · rw [chain_end (by omega)]; simp
  · simp

theorem treeB_iff {ps : List Int} : treeB ps = true ↔ Tree ps := decide_eq_true_iff
theorem upL_neg {ps : List Int} {a : Int} (h : a < 0) : upL ps a = [] := by
  unfold upL
  split
  · exact chain_end h
  · rfl
theorem upL_out {ps : List Int} {a : Int} (h : (ps.length : Int) ≤ a) : upL ps a = [] := by
  unfold upL; rw [if_neg (by omega)]
theorem upL_odd {ps : List Int} {a : Int} (h : ¬ Tree ps) : upL ps a = [] := by
  unfold upL; rw [if_neg (fun h' => h (treeB_iff.mp h'.2))]
theorem upL_step {ps : List Int} (h : Tree ps) {a : Int} (h0 : 0 ≤ a) (h1 : a < (ps.length : Int)) : upL ps a = a :: upL ps (rd ps a) := by
  have hr := tree_rd h h0 h1
  have e : upL ps a = chain ps (a.toNat + 1) a := by unfold upL; rw [if_pos ⟨h1, treeB_iff.mpr h⟩]
  have e' : upL ps (rd ps a) = chain ps ((rd ps a).toNat + 1) (rd ps a) := by unfold upL; rw [if_pos ⟨by omega, treeB_iff.mpr h⟩]
  rw [e, e', chain_step h h0 h1]
/-- By induction along the parents. -/
theorem up_induct {ps : List Int} (h : Tree ps) {p : Int → Prop} (hneg : ∀ a, a < 0 → p a) (hstep : ∀ a, 0 ≤ a → a < (ps.length : Int) → p (rd ps a) → p a) : ∀ a, a < (ps.length : Int) → p a := by
  have H : ∀ (n : Nat) (a : Int), a < (n : Int) → a < (ps.length : Int) → p a := by
    intro n
    induction n with
    | zero => exact fun a ha _ => hneg a (by omega)
    | succ n ih =>
      intro a ha hl
      by_cases h0 : 0 ≤ a
      · have hr := tree_rd h h0 hl
        exact hstep a h0 hl (ih _ (by omega) (by omega))
      · exact hneg a (by omega)
  exact fun a ha => H (a.toNat + 1) a (by omega) ha
theorem up_le {ps : List Int} (h : Tree ps) {a b : Int} (hl : a < (ps.length : Int)) (hb : b ∈ upL ps a) : 0 ≤ b ∧ b ≤ a := by
  revert hb
  refine up_induct h (p := fun a => b ∈ upL ps a → 0 ≤ b ∧ b ≤ a) ?_ ?_ a hl
  · intro a ha hb; rw [upL_neg ha] at hb; cases hb
  · intro a h0 h1 ih hb
    have hr := tree_rd h h0 h1
    rw [upL_step h h0 h1] at hb
    rcases List.mem_cons.mp hb with rfl | hb
    · omega
    · have := ih hb; omega
theorem up_lt {ps : List Int} {a b : Int} (hb : b ∈ upL ps a) : Tree ps ∧ a < (ps.length : Int) ∧ 0 ≤ a := by
  by_cases ht : Tree ps
  · by_cases hl : a < (ps.length : Int)
    · by_cases h0 : 0 ≤ a
      · exact ⟨ht, hl, h0⟩
      · rw [upL_neg (by omega)] at hb; cases hb
    · rw [upL_out (by omega)] at hb; cases hb
  · rw [upL_odd ht] at hb; cases hb
theorem up_self {ps : List Int} (h : Tree ps) {a : Int} (h0 : 0 ≤ a) (h1 : a < (ps.length : Int)) : a ∈ upL ps a := by
  rw [upL_step h h0 h1]; exact List.mem_cons_self
theorem up_anti {ps : List Int} {a b : Int} (h1 : b ∈ upL ps a) (h2 : a ∈ upL ps b) : a = b := by
  obtain ⟨ht, hl, _⟩ := up_lt h1
  obtain ⟨_, hl', _⟩ := up_lt h2
  have := up_le ht hl h1; have := up_le ht hl' h2
  omega
/-- What is above b is the end of what is above a, if b is. -/
theorem up_suffix {ps : List Int} (h : Tree ps) {a b : Int} (hl : a < (ps.length : Int)) (hb : b ∈ upL ps a) : ∃ pre, upL ps a = pre ++ upL ps b := by
  revert hb
  refine up_induct h (p := fun a => b ∈ upL ps a → ∃ pre, upL ps a = pre ++ upL ps b) ?_ ?_ a hl
  · intro a ha hb; rw [upL_neg ha] at hb; cases hb
  · intro a h0 h1 ih hb
    by_cases e : b = a
    · subst e; exact ⟨[], rfl⟩
    · rw [upL_step h h0 h1] at hb ⊢
      rcases List.mem_cons.mp hb with hb | hb
      · exact absurd hb e
      · obtain ⟨pre, hp⟩ := ih hb
        exact ⟨a :: pre, by rw [hp]; rfl⟩
theorem up_trans {ps : List Int} {a b c : Int} (h1 : b ∈ upL ps a) (h2 : c ∈ upL ps b) : c ∈ upL ps a := by
  obtain ⟨ht, hl, _⟩ := up_lt h1
  obtain ⟨pre, hp⟩ := up_suffix ht hl h1
  rw [hp]; exact List.mem_append.mpr (.inr h2)

end Go.Proofs.YtaaaocckfnlgdaaGreatDoorU
