/- 'pacelinelaw05.TreeTurned': whatever tree is made of any numbers, and whatever two classes: the law answers true. Conditions: none beyond the form's own reach. -/
import Derived.Test.YtecjpnfhanimiaaPTreeTurnedx
import Derived.Test.YtecjpnfhanimiaaTreeLib
set_option linter.unusedVariables false
set_option linter.unusedSimpArgs false
namespace Go.Proofs.Ytecjpnfhanimiaa.Pure
open Go.RowKit Go.Proofs.Ytecjpnfhanimiaa.PTreeTurned Go.Proofs.YtecjpnfhanimiaaR Go.Proofs.YtecjpnfhanimiaaW.PrintWords Go.Proofs.YtecjpnfhanimiaaW.PrintLast Go.Proofs.YtecjpnfhanimiaaU

theorem some_of_le {α : Type} {f : Nat → Option α} {v : α} {n : Nat} (h : ∀ k, n ≤ k → f k = some v) {k : Nat} (hk : n ≤ k) : f k = some v := h k hk
/-- From place i on all is as a tree's. -/
def okFrom (ps : List Int) (i : Int) : Prop := ∀ j : Nat, i ≤ (j : Int) → j < ps.length → -1 ≤ ps.getD j 0 ∧ ps.getD j 0 < (j : Int)
theorem rck_loop (ps : List Int) (h16 : ps.length ≤ 16) (d : Nat) : ∀ (k : Nat) (i : Int), 0 ≤ i → i ≤ (ps.length : Int) → (ps.length : Int) - i = d → d < k →
    ∃ r, pacelineref05_Check.l0 k ps i = some r ∧ (okFrom ps i → r = 0) ∧ (¬ okFrom ps i → r = 50) := by
  induction d with
  | zero =>
    intro k i h0 h1 hd hk
    obtain ⟨k, rfl⟩ : ∃ m, k = m + 1 := ⟨k - 1, by omega⟩
    exact ⟨0, by simp only [pacelineref05_Check.l0]; rw [if_neg (by omega)], fun _ => rfl, fun h => absurd (fun j hj hl => by omega) h⟩
  | succ d ih =>
    intro k i h0 h1 hd hk
    obtain ⟨k, rfl⟩ : ∃ m, k = m + 1 := ⟨k - 1, by omega⟩
    have hlt : i < (ps.length : Int) := by omega
    have hat : ∀ j : Nat, (j : Int) = i → ps.getD j 0 = rd ps i := fun j hj => by
      subst hj
      rfl
    simp only [pacelineref05_Check.l0]
    rw [if_pos hlt, if_pos h0]
    by_cases h2 : rd ps i < -1
    · exact ⟨50, by rw [if_pos h2], fun h => by have := h i.toNat (by omega) (by omega); rw [hat i.toNat (by omega)] at this; omega, fun _ => rfl⟩
    · rw [if_neg h2]
      by_cases h3 : rd ps i ≥ i
      · exact ⟨50, by rw [if_pos h3], fun h => by have := h i.toNat (by omega) (by omega); rw [hat i.toNat (by omega)] at this; omega, fun _ => rfl⟩
      · rw [if_neg h3, wrap64_id (by omega) (by omega)]
        obtain ⟨r, hr, ha, hb⟩ := ih k (i + 1) (by omega) (by omega) (by omega) (by omega)
        refine ⟨r, hr, fun h => ha (fun j hj hl => h j (by omega) hl), fun h => hb (fun h' => h (fun j hj hl => ?_))⟩
        by_cases e : (j : Int) = i
        · rw [hat j e]; omega
        · exact h' j (by omega) hl
theorem rck (ps : List Int) (k : Nat) (hk : 18 ≤ k) : pacelineref05_Check.f k ps = some (if treeB ps = true then 0 else 50) := by
  have hT := treeB_iff (ps := ps)
  obtain ⟨k, rfl⟩ : ∃ m, k = m + 1 := ⟨k - 1, by omega⟩
  unfold pacelineref05_Check.f
  by_cases h1 : (ps.length : Int) < 1
  · rw [if_pos h1, if_neg (fun h => by have := (hT.mp h).1; omega)]
    simp only [pacelineref05_Check.j0, if_true]
  · rw [if_neg h1]
    by_cases h2 : (ps.length : Int) > 16
    · rw [if_neg (fun h => by have := (hT.mp h).2.1; omega)]
      simp only [pacelineref05_Check.j0, decide_eq_true_eq]
      rw [if_pos h2]
    · simp only [pacelineref05_Check.j0, decide_eq_true_eq]
      rw [if_neg h2]
      obtain ⟨r, hr, ha, hb⟩ := rck_loop ps (by omega) ps.length k 0 (by omega) (by omega) (by omega) (by omega)
      rw [hr]
      by_cases ht : treeB ps = true
      · rw [if_pos ht, ha (fun j _ hl => (hT.mp ht).2.2 j hl)]
      · rw [if_neg ht, hb (fun h => ht (hT.mpr ⟨by omega, by omega, fun j hj => h j (by omega) hj⟩))]

theorem rabove_loop {ps : List Int} (ht : Tree ps) : ∀ a, a < (ps.length : Int) → ∀ (k : Nat) (acc : List Int), (a + 1).toNat < k → acc.length + (a + 1).toNat ≤ 100 →
    pacelineref05_Above.l0 k ps a acc = some (acc ++ upL ps a) := by
  refine up_induct ht (p := fun a => ∀ (k : Nat) (acc : List Int), (a + 1).toNat < k → acc.length + (a + 1).toNat ≤ 100 → pacelineref05_Above.l0 k ps a acc = some (acc ++ upL ps a)) ?_ ?_
  · intro a ha k acc hk hl
    obtain ⟨k, rfl⟩ : ∃ m, k = m + 1 := ⟨k - 1, by omega⟩
    simp only [pacelineref05_Above.l0]
    rw [if_neg (by omega), upL_neg ha, List.append_nil]
  · intro a h0 h1 ih k acc hk hl
    have hr := tree_rd ht h0 h1
    obtain ⟨k, rfl⟩ : ∃ m, k = m + 1 := ⟨k - 1, by omega⟩
    simp only [pacelineref05_Above.l0]
    rw [if_pos (by omega), if_pos (by omega), if_pos h0, if_pos h1, ih k _ (by omega) (by simp; omega), upL_step ht h0 h1]
    simp
theorem rabove (ps : List Int) (a : Int) (k : Nat) (hk : 20 ≤ k) : pacelineref05_Above.f k ps a = some (upL ps a) := by
  unfold pacelineref05_Above.f
  rw [rck ps k (by omega)]
  obtain ⟨k, rfl⟩ : ∃ m, k = m + 1 := ⟨k - 1, by omega⟩
  simp only [Option.bind_some]
  by_cases ht : treeB ps = true
  · have hT := treeB_iff.mp ht
    have := hT.2.1
    rw [if_pos ht, if_pos rfl]
    by_cases ha : a < 0
    · rw [if_pos ha, upL_neg ha]
      simp only [pacelineref05_Above.j0, if_true]
    · rw [if_neg ha]
      simp only [pacelineref05_Above.j0, decide_eq_true_eq]
      by_cases hl : a ≥ (ps.length : Int)
      · rw [if_pos hl, upL_out hl]
      · rw [if_neg hl, rabove_loop hT a (by omega) k [] (by omega) (by simp; omega)]
        simp
  · rw [if_neg ht, if_neg (by omega), upL_odd (fun h => ht (treeB_iff.mpr h))]
    simp only [pacelineref05_Above.j0, if_true]

theorem has_loop (xs : List Int) (b : Int) (hx : xs.length ≤ 100000) (d : Nat) : ∀ (k : Nat) (i : Int), 0 ≤ i → i ≤ (xs.length : Int) → (xs.length : Int) - i = d → d < k →
    pacelineref05_Has.l0 k xs b i = some (decide (b ∈ xs.drop i.toNat)) := by
  induction d with
  | zero =>
    intro k i h0 h1 hd hk
    obtain ⟨k, rfl⟩ : ∃ m, k = m + 1 := ⟨k - 1, by omega⟩
    simp only [pacelineref05_Has.l0]
    rw [if_neg (by omega), List.drop_eq_nil_of_le (by omega)]
    simp
  | succ d ih =>
    intro k i h0 h1 hd hk
    obtain ⟨k, rfl⟩ : ∃ m, k = m + 1 := ⟨k - 1, by omega⟩
    have hlt : i.toNat < xs.length := by omega
    have e : xs.drop i.toNat = rd xs i :: xs.drop (i.toNat + 1) := by
      rw [List.drop_eq_getElem_cons hlt]
      unfold rd
      rw [List.getD_eq_getElem?_getD, List.getElem?_eq_getElem hlt]
      rfl
    simp only [pacelineref05_Has.l0]
    rw [if_pos (by omega), if_pos h0, e]
    by_cases hb : rd xs i = b
    · rw [if_pos hb, decide_eq_true (by rw [hb]; exact List.mem_cons_self)]
    · rw [if_neg hb, wrap64_id (by omega) (by omega), ih k (i + 1) (by omega) (by omega) (by omega) (by omega), show (i + 1).toNat = i.toNat + 1 by omega]
      congr 1
      simp [List.mem_cons, Ne.symm hb]
theorem rhas (xs : List Int) (b : Int) (hx : xs.length ≤ 100000) (k : Nat) (hk : xs.length < k) : pacelineref05_Has.f k xs b = some (decide (b ∈ xs)) := by
  unfold pacelineref05_Has.f
  rw [has_loop xs b hx xs.length k 0 (by omega) (by omega) (by omega) hk]
  rfl

theorem made_loop (raw : List Int) (hr : ∀ x ∈ raw, 0 ≤ x ∧ x ≤ 255) (d : Nat) : ∀ (k : Nat) (acc : List Int) (i : Int), 0 ≤ i → i ≤ 16 → 16 - i = d → d < k → (acc.length : Int) = i → i ≤ (raw.length : Int) →
    (∀ j : Nat, j < acc.length → -1 ≤ acc.getD j 0 ∧ acc.getD j 0 < (j : Int)) → ∃ p, pacelinelaw05_made.l0 k raw acc i = some p ∧ Tree p := by
  have hend : ∀ (k : Nat) (acc : List Int), acc.length ≤ 16 → (∀ j : Nat, j < acc.length → -1 ≤ acc.getD j 0 ∧ acc.getD j 0 < (j : Int)) →
      ∃ p, (if (acc.length : Int) = 0 then (if acc.length < 17592186044416 then (some (acc ++ [(-1)])) else (none)) else (some acc)) = some p ∧ Tree p := fun k acc hl hok => by
    by_cases h : (acc.length : Int) = 0
    · rw [if_pos h, if_pos (by omega)]
      obtain rfl : acc = [] := List.eq_nil_of_length_eq_zero (by omega)
      exact ⟨_, rfl, by simp, by simp, fun i hi => by simp at hi; subst hi; simp⟩
    · rw [if_neg h]
      exact ⟨_, rfl, by omega, hl, hok⟩
  induction d with
  | zero =>
    intro k acc i h0 h1 hd hk ha hl hok
    obtain ⟨k, rfl⟩ : ∃ m, k = m + 1 := ⟨k - 1, by omega⟩
    simp only [pacelinelaw05_made.l0]
    by_cases hlt : i < (raw.length : Int)
    · rw [if_pos hlt, if_neg (by omega)]
      exact hend k acc (by omega) hok
    · rw [if_neg hlt]
      exact hend k acc (by omega) hok
  | succ d ih =>
    intro k acc i h0 h1 hd hk ha hl hok
    obtain ⟨k, rfl⟩ : ∃ m, k = m + 1 := ⟨k - 1, by omega⟩
    simp only [pacelinelaw05_made.l0]
    by_cases hlt : i < (raw.length : Int)
    · have hx := hr _ (rd_mem h0 hlt)
      rw [if_pos hlt, if_pos (by omega), if_pos h0, wrap64_id (x := i + 1) (by omega) (by omega), if_neg (by omega), if_pos (by omega), wrap64_id (x := rd raw i) (by omega) (by omega), tmod_nonneg (by omega)]
      have hm0 := Int.emod_nonneg (rd raw i) (b := i + 1) (by omega)
      have hm1 := Int.emod_lt_of_pos (rd raw i) (b := i + 1) (by omega)
      rw [wrap64_id (x := rd raw i % (i + 1) - 1) (by omega) (by omega)]
      refine ih k _ _ (by omega) (by omega) (by omega) (by omega) (by simp; omega) (by omega) (fun j hj => ?_)
      by_cases hj' : j < acc.length
      · have := hok j hj'
        rw [List.getD_eq_getElem?_getD, List.getElem?_append_left hj', ← List.getD_eq_getElem?_getD]
        exact this
      · have hj'' : j = acc.length := by simp at hj; omega
        rw [List.getD_eq_getElem?_getD, List.getElem?_append_right (by omega), hj'']
        simp
        omega
    · rw [if_neg hlt]
      exact hend k acc (by omega) hok
theorem made_tree (raw : List Int) (hr : ∀ x ∈ raw, 0 ≤ x ∧ x ≤ 255) : ∃ p, Tree p ∧ ∀ k, 18 ≤ k → pacelinelaw05_made.f k raw = some p := by
  obtain ⟨p, hp, ht⟩ := made_loop raw hr 16 18 [] 0 (by omega) (by omega) (by omega) (by omega) (by simp) (by omega) (fun j hj => by simp at hj)
  refine ⟨p, ht, fun k hk => ?_⟩
  obtain ⟨q, hq, _⟩ := made_loop raw hr 16 k [] 0 (by omega) (by omega) (by omega) (by omega) (by simp) (by omega) (fun j hj => by simp at hj)
  have key : ∀ n, pacelinelaw05_made.l0 (18 + n) raw [] 0 = some p := by
    intro n
    induction n with
    | zero => exact hp
    | succ n ih => exact pacelinelaw05_made.mono_l (18 + n) raw [] 0 _ ih
  have := key (k - 18)
  rw [show 18 + (k - 18) = k by omega] at this
  exact this
/-- A number taken among the classes. -/
theorem class_of {p : List Int} (ht : Tree p) {a : Int} (h0 : 0 ≤ a) (h1 : a ≤ 255) : Int.tmod (wrap64 a) (p.length : Int) = a % (p.length : Int) ∧ 0 ≤ a % (p.length : Int) ∧ a % (p.length : Int) < (p.length : Int) := by
  have := ht.1
  refine ⟨by rw [wrap64_id (by omega) (by omega), tmod_nonneg h0], Int.emod_nonneg _ (by omega), Int.emod_lt_of_pos _ (by omega)⟩

theorem same_loop (xs : List Int) (hx : xs.length ≤ 100000) (d : Nat) : ∀ (k : Nat) (i : Int), 0 ≤ i → i ≤ (xs.length : Int) → (xs.length : Int) - i = d → d < k → pacelinelaw05_same.l0 k xs xs i = some true := by
  induction d with
  | zero =>
    intro k i h0 h1 hd hk
    obtain ⟨k, rfl⟩ : ∃ m, k = m + 1 := ⟨k - 1, by omega⟩
    simp only [pacelinelaw05_same.l0]
    rw [if_neg (by omega)]
  | succ d ih =>
    intro k i h0 h1 hd hk
    obtain ⟨k, rfl⟩ : ∃ m, k = m + 1 := ⟨k - 1, by omega⟩
    simp only [pacelinelaw05_same.l0, if_true]
    rw [if_pos (by omega), if_pos h0, if_pos (by omega), wrap64_id (by omega) (by omega)]
    exact ih k (i + 1) (by omega) (by omega) (by omega) (by omega)
theorem same_self (xs : List Int) (hx : xs.length ≤ 100000) (k : Nat) (hk : xs.length < k) : pacelinelaw05_same.f k xs xs = some true := by
  unfold pacelinelaw05_same.f
  rw [if_pos rfl]
  exact same_loop xs hx xs.length k 0 (by omega) (by omega) (by omega) hk

theorem range_filter_succ (p : Int → Bool) (n : Nat) : ((List.range (n + 1)).map Int.ofNat).filter p = ((List.range n).map Int.ofNat).filter p ++ if p (n : Int) = true then [(n : Int)] else [] := by
  rw [List.range_succ, List.map_append, List.filter_append]
  congr 1
  show List.filter p [(n : Int)] = _
  rw [List.filter_cons]
  split <;> rfl
theorem below_loop (ps : List Int) (a : Int) (d : Nat) : ∀ (k n : Nat) (m : Int), (n : Int) ≤ m → m ≤ 16 → m - n = d → d < k →
    tree_Below.l0 k ps a (((List.range n).map Int.ofNat).filter fun i => decide (a ∈ upL ps i)) m n = some (((List.range m.toNat).map Int.ofNat).filter fun i => decide (a ∈ upL ps i)) := by
  induction d with
  | zero =>
    intro k n m h1 h2 hd hk
    obtain ⟨k, rfl⟩ : ∃ m, k = m + 1 := ⟨k - 1, by omega⟩
    simp only [tree_Below.l0]
    rw [if_neg (by omega), show m.toNat = n by omega]
  | succ d ih =>
    intro k n m h1 h2 hd hk
    obtain ⟨k, rfl⟩ : ∃ m, k = m + 1 := ⟨k - 1, by omega⟩
    have hi := ih k (n + 1) m (by omega) h2 (by omega) (by omega)
    have hlen : (((List.range n).map Int.ofNat).filter fun i => decide (a ∈ upL ps i)).length ≤ 16 := by
      refine Nat.le_trans (List.length_filter_le _ _) ?_
      simp; omega
    rw [range_filter_succ] at hi
    simp only [tree_Below.l0, tree_IsA.f, Option.bind_some]
    rw [if_pos (by omega), wrap64_id (by omega) (by omega)]
    by_cases h : a ∈ upL ps (n : Int)
    · rw [if_pos (decide_eq_true h), if_pos (by omega)]
      rw [if_pos (decide_eq_true h)] at hi
      exact hi
    · rw [if_neg (by simpa using h)]
      rw [if_neg (by simpa using h), List.append_nil] at hi
      exact hi
theorem tbelow (ps : List Int) (a : Int) (k : Nat) (hk : 20 ≤ k) : tree_Below.f k ps a = some (belowL ps a) := by
  unfold tree_Below.f
  have hm : mn (ps.length : Int) 16 = ((min ps.length 16 : Nat) : Int) := by unfold mn; omega
  rw [hm]
  have := below_loop ps a (min ps.length 16) k 0 ((min ps.length 16 : Nat) : Int) (by omega) (by omega) (by omega) (by omega)
  exact this

theorem below_head {p : List Int} (ht : Tree p) {b : Int} (h0 : 0 ≤ b) (h1 : b < (p.length : Int)) : ∃ l, belowL p b = b :: l := by
  have h16 := ht.2.1
  obtain ⟨n, rfl⟩ := Int.eq_ofNat_of_zero_le h0
  obtain ⟨m, hm⟩ : ∃ m, min p.length 16 = n + (m + 1) := ⟨min p.length 16 - n - 1, by omega⟩
  unfold belowL
  rw [hm, List.range_add, List.map_append, List.filter_append, List.range_succ_eq_map]
  have e1 : ((List.range n).map Int.ofNat).filter (fun i => decide ((n : Int) ∈ upL p i)) = [] := by
    rw [List.filter_eq_nil_iff]
    intro x hx
    obtain ⟨j, hj, rfl⟩ := List.mem_map.mp hx
    have hj' := List.mem_range.mp hj
    intro hd
    have := up_le ht (show (Int.ofNat j) < (p.length : Int) by simp; omega) (of_decide_eq_true hd)
    have e : Int.ofNat j = (j : Int) := rfl
    omega
  rw [e1, List.nil_append]
  simp only [List.map_cons, Nat.add_zero]
  rw [List.filter_cons]
  have hs : (decide ((n : Int) ∈ upL p (Int.ofNat n))) = true := decide_eq_true (up_self ht h0 h1)
  rw [if_pos hs]
  exact ⟨_, rfl⟩
theorem TreeTurned : pacelinelaw05_TreeTurned.Pure := by
  intro l0 a1 a2 h0 w1 w2
  have r1 := wf_u8 w1
  have r2 := wf_u8 w2
  obtain ⟨p, ht, hp⟩ := made_tree l0 (fun x hx => wf_u8 (h0.2 x hx))
  obtain ⟨e1, c1, d1⟩ := class_of ht r1.1 r1.2
  obtain ⟨e2, c2, d2⟩ := class_of ht r2.1 r2.2
  refine ⟨200, ?_⟩
  unfold pacelinelaw05_TreeTurned.f
  rw [hp 200 (by omega)]
  simp only [Option.bind_some]
  rw [if_neg (by have := ht.1; omega), e1, e2]
  generalize a1 % (p.length : Int) = a at *
  generalize a2 % (p.length : Int) = b at *
  have l1 := upL_length p a
  have l2 := belowL_length p b
  have n1 := up_ne ht c1 d1
  obtain ⟨tl, htl⟩ := below_head ht c2 d2
  have n2 : 1 ≤ (belowL p b).length := by rw [htl]; simp
  have hd2 : rd (belowL p b) 0 = b := by rw [htl]; rfl
  have hd1 := (up_shape ht a d1 c1).1
  simp only [tree_Above.f, Option.bind_some]
  rw [tbelow p b 200 (by omega)]
  simp only [Option.bind_some]
  rw [rhas _ b (by omega) 200 (by omega), rhas _ a (by omega) 200 (by omega)]
  simp only [Option.bind_some]
  have hiff : (decide (b ∈ upL p a) == decide (a ∈ belowL p b)) = true := by
    rw [beq_iff_eq, decide_eq_decide]
    exact mem_belowL.symm
  rw [if_pos hiff, if_pos (by omega), if_pos (by omega), if_pos hd1, if_pos (by omega), if_pos (by omega), if_pos hd2, rabove p a 200 (by omega)]
  simp only [Option.bind_some]
  rw [same_self _ (by omega) 200 (by omega)]
  rfl

end Go.Proofs.Ytecjpnfhanimiaa.Pure
