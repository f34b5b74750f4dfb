/- 'pacelinelaw05.TreeOdd': whatever classes there are and whatever number: where they are no tree, or there is no such class, nothing is told: the law answers true. Conditions: none beyond the form's own reach. -/
import Derived.Test.YtecjpnfhanimiaaPTreeOddx
import Derived.Test.YtecjpnfhanimiaaTreeLib
set_option linter.unusedVariables false
set_option linter.unusedSimpArgs false
namespace Go.Proofs.Ytecjpnfhanimiaa.Pure
open Go.RowKit Go.Proofs.Ytecjpnfhanimiaa.PTreeOdd Go.Proofs.YtecjpnfhanimiaaR Go.Proofs.YtecjpnfhanimiaaW.PrintWords Go.Proofs.YtecjpnfhanimiaaW.PrintLast Go.Proofs.YtecjpnfhanimiaaU

theorem some_of_le {α : Type} {f : Nat → Option α} {v : α} {n : Nat} (h : ∀ k, n ≤ k → f k = some v) {k : Nat} (hk : n ≤ k) : f k = some v := h k hk
/-- From place i on all is as a tree's. -/
def okFrom (ps : List Int) (i : Int) : Prop := ∀ j : Nat, i ≤ (j : Int) → j < ps.length → -1 ≤ ps.getD j 0 ∧ ps.getD j 0 < (j : Int)
theorem rck_loop (ps : List Int) (h16 : ps.length ≤ 16) (d : Nat) : ∀ (k : Nat) (i : Int), 0 ≤ i → i ≤ (ps.length : Int) → (ps.length : Int) - i = d → d < k →
    ∃ r, pacelineref05_Check.l0 k ps i = some r ∧ (okFrom ps i → r = 0) ∧ (¬ okFrom ps i → r = 50) := by
  induction d with
  | zero =>
    intro k i h0 h1 hd hk
    obtain ⟨k, rfl⟩ : ∃ m, k = m + 1 := ⟨k - 1, by omega⟩
    exact ⟨0, by simp only [pacelineref05_Check.l0]; rw [if_neg (by omega)], fun _ => rfl, fun h => absurd (fun j hj hl => by omega) h⟩
  | succ d ih =>
    intro k i h0 h1 hd hk
    obtain ⟨k, rfl⟩ : ∃ m, k = m + 1 := ⟨k - 1, by omega⟩
    have hlt : i < (ps.length : Int) := by omega
    have hat : ∀ j : Nat, (j : Int) = i → ps.getD j 0 = rd ps i := fun j hj => by
      subst hj
      rfl
    simp only [pacelineref05_Check.l0]
    rw [if_pos hlt, if_pos h0]
    by_cases h2 : rd ps i < -1
    · exact ⟨50, by rw [if_pos h2], fun h => by have := h i.toNat (by omega) (by omega); rw [hat i.toNat (by omega)] at this; omega, fun _ => rfl⟩
    · rw [if_neg h2]
      by_cases h3 : rd ps i ≥ i
      · exact ⟨50, by rw [if_pos h3], fun h => by have := h i.toNat (by omega) (by omega); rw [hat i.toNat (by omega)] at this; omega, fun _ => rfl⟩
      · rw [if_neg h3, wrap64_id (by omega) (by omega)]
        obtain ⟨r, hr, ha, hb⟩ := ih k (i + 1) (by omega) (by omega) (by omega) (by omega)
        refine ⟨r, hr, fun h => ha (fun j hj hl => h j (by omega) hl), fun h => hb (fun h' => h (fun j hj hl => ?_))⟩
        by_cases e : (j : Int) = i
        · rw [hat j e]; omega
        · exact h' j (by omega) hl
theorem rck (ps : List Int) (k : Nat) (hk : 18 ≤ k) : pacelineref05_Check.f k ps = some (if treeB ps = true then 0 else 50) := by
  have hT := treeB_iff (ps := ps)
  obtain ⟨k, rfl⟩ : ∃ m, k = m + 1 := ⟨k - 1, by omega⟩
  unfold pacelineref05_Check.f
  by_cases h1 : (ps.length : Int) < 1
  · rw [if_pos h1, if_neg (fun h => by have := (hT.mp h).1; omega)]
    simp only [pacelineref05_Check.j0, if_true]
  · rw [if_neg h1]
    by_cases h2 : (ps.length : Int) > 16
    · rw [if_neg (fun h => by have := (hT.mp h).2.1; omega)]
      simp only [pacelineref05_Check.j0, decide_eq_true_eq]
      rw [if_pos h2]
    · simp only [pacelineref05_Check.j0, decide_eq_true_eq]
      rw [if_neg h2]
      obtain ⟨r, hr, ha, hb⟩ := rck_loop ps (by omega) ps.length k 0 (by omega) (by omega) (by omega) (by omega)
      rw [hr]
      by_cases ht : treeB ps = true
      · rw [if_pos ht, ha (fun j _ hl => (hT.mp ht).2.2 j hl)]
      · rw [if_neg ht, hb (fun h => ht (hT.mpr ⟨by omega, by omega, fun j hj => h j (by omega) hj⟩))]

theorem meet_loop {ps : List Int} (ht : Tree ps) : ∀ (n : Nat) (a b : Int), a < (ps.length : Int) → b < (ps.length : Int) → -1 ≤ a → -1 ≤ b → (a + 1).toNat + (b + 1).toNat ≤ n → ∀ k, 2 * n + 2 ≤ k →
    tree_Meet.l0 k ps a b = some (meetV ps a b) := by
  intro n
  induction n with
  | zero =>
    intro a b ha hb ha1 hb1 hn k hk
    obtain ⟨k, rfl⟩ : ∃ m, k = m + 2 := ⟨k - 2, by omega⟩
    have hav : a = -1 := by omega
    have hbv : b = -1 := by omega
    subst hav hbv
    rw [meet_none_left (upL_neg (by omega))]
    simp only [tree_Meet.l0, tree_Meet.j2, if_true, Bool.false_eq_true, if_false]
  | succ n ih =>
    intro a b ha hb ha1 hb1 hn k hk
    obtain ⟨k, rfl⟩ : ∃ m, k = m + 2 := ⟨k - 2, by omega⟩
    by_cases hab : a = b
    · subst hab
      simp only [tree_Meet.l0, tree_Meet.j2, if_true, Bool.false_eq_true, if_false]
      by_cases h0 : 0 ≤ a
      · rw [meet_eq ht h0 ha]
      · rw [meet_none_left (upL_neg (by omega))]; congr 1; omega
    · simp only [tree_Meet.l0, tree_Meet.j2]
      rw [if_neg hab, if_neg hab]
      by_cases h0 : a ≥ 0
      · rw [if_pos h0]
        by_cases h0b : b ≥ 0
        · rw [if_pos (decide_eq_true h0b)]
          by_cases hgt : a > b
          · have hr := tree_rd ht h0 ha
            rw [if_pos hgt, if_pos (by omega), if_pos ha, meet_left ht h0 ha hgt]
            exact ih _ _ (by omega) hb hr.1 hb1 (by omega) k (by omega)
          · have hr := tree_rd ht h0b hb
            rw [if_neg hgt, if_pos (by omega), if_pos hb, meet_right ht h0b hb (by omega)]
            exact ih _ _ ha (by omega) ha1 hr.1 (by omega) k (by omega)
        · rw [if_neg (by simpa using h0b), meet_none_right (upL_neg (by omega))]
      · rw [if_neg h0]
        simp only [Bool.false_eq_true, if_false]
        rw [meet_none_left (upL_neg (by omega))]
theorem tmeet (ps : List Int) (a b : Int) (k : Nat) (hk : 100 ≤ k) (hck : ∀ k, 18 ≤ k → tree_Check.f k ps = some (if treeB ps = true then 0 else 50)) : tree_Meet.f k ps a b = some (meetV ps a b) := by
  unfold tree_Meet.f
  rw [hck k (by omega)]
  obtain ⟨k, rfl⟩ : ∃ m, k = m + 1 := ⟨k - 1, by omega⟩
  simp only [Option.bind_some, tree_Meet.j0, if_true]
  by_cases ht : treeB ps = true
  · have hT := treeB_iff.mp ht
    have := hT.2.1
    rw [if_pos ht, if_pos rfl]
    by_cases ha : a < 0
    · rw [if_pos ha, meet_none_left (upL_neg ha)]
    · rw [if_neg ha]
      by_cases hb : b < 0
      · rw [if_pos hb, meet_none_right (upL_neg hb)]
      · rw [if_neg hb]
        by_cases hal : a ≥ (ps.length : Int)
        · rw [if_pos hal, meet_none_left (upL_out hal)]
        · rw [if_neg hal]
          by_cases hbl : b ≥ (ps.length : Int)
          · rw [if_pos (decide_eq_true hbl), meet_none_right (upL_out hbl)]
          · rw [if_neg (by simpa using hbl)]
            exact meet_loop hT 34 a b (by omega) (by omega) (by omega) (by omega) (by omega) k (by omega)
  · rw [if_neg ht, if_neg (by omega), meet_none_left (upL_odd (fun h => ht (treeB_iff.mpr h)))]

theorem range_filter_succ (p : Int → Bool) (n : Nat) : ((List.range (n + 1)).map Int.ofNat).filter p = ((List.range n).map Int.ofNat).filter p ++ if p (n : Int) = true then [(n : Int)] else [] := by
  rw [List.range_succ, List.map_append, List.filter_append]
  congr 1
  show List.filter p [(n : Int)] = _
  rw [List.filter_cons]
  split <;> rfl
theorem below_loop (ps : List Int) (a : Int) (d : Nat) : ∀ (k n : Nat) (m : Int), (n : Int) ≤ m → m ≤ 16 → m - n = d → d < k →
    tree_Below.l0 k ps a (((List.range n).map Int.ofNat).filter fun i => decide (a ∈ upL ps i)) m n = some (((List.range m.toNat).map Int.ofNat).filter fun i => decide (a ∈ upL ps i)) := by
  induction d with
  | zero =>
    intro k n m h1 h2 hd hk
    obtain ⟨k, rfl⟩ : ∃ m, k = m + 1 := ⟨k - 1, by omega⟩
    simp only [tree_Below.l0]
    rw [if_neg (by omega), show m.toNat = n by omega]
  | succ d ih =>
    intro k n m h1 h2 hd hk
    obtain ⟨k, rfl⟩ : ∃ m, k = m + 1 := ⟨k - 1, by omega⟩
    have hi := ih k (n + 1) m (by omega) h2 (by omega) (by omega)
    have hlen : (((List.range n).map Int.ofNat).filter fun i => decide (a ∈ upL ps i)).length ≤ 16 := by
      refine Nat.le_trans (List.length_filter_le _ _) ?_
      simp; omega
    rw [range_filter_succ] at hi
    simp only [tree_Below.l0, tree_IsA.f, Option.bind_some]
    rw [if_pos (by omega), wrap64_id (by omega) (by omega)]
    by_cases h : a ∈ upL ps (n : Int)
    · rw [if_pos (decide_eq_true h), if_pos (by omega)]
      rw [if_pos (decide_eq_true h)] at hi
      exact hi
    · rw [if_neg (by simpa using h)]
      rw [if_neg (by simpa using h), List.append_nil] at hi
      exact hi
theorem tbelow (ps : List Int) (a : Int) (k : Nat) (hk : 20 ≤ k) : tree_Below.f k ps a = some (belowL ps a) := by
  unfold tree_Below.f
  have hm : mn (ps.length : Int) 16 = ((min ps.length 16 : Nat) : Int) := by unfold mn; omega
  rw [hm]
  have := below_loop ps a (min ps.length 16) k 0 ((min ps.length 16 : Nat) : Int) (by omega) (by omega) (by omega) (by omega)
  exact this

theorem odd_rest (ps : List Int) (a : Int) (h : upL ps a = []) (hm : meetV ps a 0 = -1) (hb : belowL ps a = []) (k : Nat) (hk : 150 ≤ k) : pacelinelaw05_TreeOdd.j0 k ps a false = some true := by
  obtain ⟨k, rfl⟩ : ∃ m, k = m + 1 := ⟨k - 1, by omega⟩
  simp only [pacelinelaw05_TreeOdd.j0, Bool.false_eq_true, if_false, tree_Above.f, tree_IsA.f, Option.bind_some]
  rw [h, tbelow ps a k (by omega), hb, tmeet ps a 0 k (by omega) (tree_IsA.ck ps), hm, tree_IsA.ck [] k (by omega)]
  have ht : treeB [] = false := by decide
  rw [ht]
  simp
theorem TreeOdd : pacelinelaw05_TreeOdd.Pure := by
  intro l0 a _ _
  refine ⟨200, ?_⟩
  unfold pacelinelaw05_TreeOdd.f
  by_cases hl : (l0.length : Int) > 100
  · rw [if_pos hl]
  · rw [if_neg hl, tree_IsA.ck l0 200 (by omega), rck l0 200 (by omega)]
    simp only [Option.bind_some, if_true]
    have noB : ∀ i, upL l0 a = [] → Tree l0 → a < (l0.length : Int) → 0 ≤ a → a ∉ upL l0 i := fun i h ht h1 h0 => by
      have := up_self ht h0 h1; rw [h] at this; cases this
    by_cases ht : treeB l0 = true
    · have hT := treeB_iff.mp ht
      rw [if_pos ht, if_pos rfl]
      have below_nil : (a < 0 ∨ (l0.length : Int) ≤ a) → belowL l0 a = [] := fun h => by
        rcases hb : belowL l0 a with _ | ⟨x, l⟩
        · rfl
        · have hx : x ∈ belowL l0 a := by rw [hb]; exact List.mem_cons_self
          have hx' := mem_belowL.mp hx
          obtain ⟨_, g1, _⟩ := up_lt hx'
          have := up_le hT g1 hx'
          omega
      by_cases h0 : a ≥ 0
      · rw [if_pos h0]
        by_cases h1 : a < (l0.length : Int)
        · rw [decide_eq_true h1]
          simp only [pacelinelaw05_TreeOdd.j0, if_true, tree_IsA.f, Option.bind_some]
          rw [decide_eq_true (up_self hT h0 h1)]
        · rw [decide_eq_false h1]
          exact odd_rest l0 a (upL_out (by omega)) (meet_none_left (upL_out (by omega))) (below_nil (.inr (by omega))) 200 (by omega)
      · rw [if_neg h0]
        exact odd_rest l0 a (upL_neg (by omega)) (meet_none_left (upL_neg (by omega))) (below_nil (.inl (by omega))) 200 (by omega)
    · have hT : ¬ Tree l0 := fun h => ht (treeB_iff.mpr h)
      rw [if_neg ht, if_neg (by omega)]
      exact odd_rest l0 a (upL_odd hT) (meet_none_left (upL_odd hT)) (belowL_odd hT) 200 (by omega)

end Go.Proofs.Ytecjpnfhanimiaa.Pure
