/- 'pacelinelaw05.TreeRoots': whatever tree is made of any numbers, and whatever two classes: the law answers true. Conditions: none beyond the form's own reach. -/
import Derived.Test.YtecjpnfhanimiaaPTreeRootsx
import Derived.Test.YtecjpnfhanimiaaTreeLib
set_option linter.unusedVariables false
set_option linter.unusedSimpArgs false
namespace Go.Proofs.Ytecjpnfhanimiaa.Pure
open Go.RowKit Go.Proofs.Ytecjpnfhanimiaa.PTreeRoots Go.Proofs.YtecjpnfhanimiaaR Go.Proofs.YtecjpnfhanimiaaW.PrintWords Go.Proofs.YtecjpnfhanimiaaW.PrintLast Go.Proofs.YtecjpnfhanimiaaU

theorem some_of_le {α : Type} {f : Nat → Option α} {v : α} {n : Nat} (h : ∀ k, n ≤ k → f k = some v) {k : Nat} (hk : n ≤ k) : f k = some v := h k hk
/-- From place i on all is as a tree's. -/
def okFrom (ps : List Int) (i : Int) : Prop := ∀ j : Nat, i ≤ (j : Int) → j < ps.length → -1 ≤ ps.getD j 0 ∧ ps.getD j 0 < (j : Int)
theorem rck_loop (ps : List Int) (h16 : ps.length ≤ 16) (d : Nat) : ∀ (k : Nat) (i : Int), 0 ≤ i → i ≤ (ps.length : Int) → (ps.length : Int) - i = d → d < k →
    ∃ r, pacelineref05_Check.l0 k ps i = some r ∧ (okFrom ps i → r = 0) ∧ (¬ okFrom ps i → r = 50) := by
  induction d with
  | zero =>
    intro k i h0 h1 hd hk
    obtain ⟨k, rfl⟩ : ∃ m, k = m + 1 := ⟨k - 1, by omega⟩
    exact ⟨0, by simp only [pacelineref05_Check.l0]; rw [if_neg (by omega)], fun _ => rfl, fun h => absurd (fun j hj hl => by omega) h⟩
  | succ d ih =>
    intro k i h0 h1 hd hk
    obtain ⟨k, rfl⟩ : ∃ m, k = m + 1 := ⟨k - 1, by omega⟩
    have hlt : i < (ps.length : Int) := by omega
    have hat : ∀ j : Nat, (j : Int) = i → ps.getD j 0 = rd ps i := fun j hj => by
      subst hj
      rfl
    simp only [pacelineref05_Check.l0]
    rw [if_pos hlt, if_pos h0]
    by_cases h2 : rd ps i < -1
    · exact ⟨50, by rw [if_pos h2], fun h => by have := h i.toNat (by omega) (by omega); rw [hat i.toNat (by omega)] at this; omega, fun _ => rfl⟩
    · rw [if_neg h2]
      by_cases h3 : rd ps i ≥ i
      · exact ⟨50, by rw [if_pos h3], fun h => by have := h i.toNat (by omega) (by omega); rw [hat i.toNat (by omega)] at this; omega, fun _ => rfl⟩
      · rw [if_neg h3, wrap64_id (by omega) (by omega)]
        obtain ⟨r, hr, ha, hb⟩ := ih k (i + 1) (by omega) (by omega) (by omega) (by omega)
        refine ⟨r, hr, fun h => ha (fun j hj hl => h j (by omega) hl), fun h => hb (fun h' => h (fun j hj hl => ?_))⟩
        by_cases e : (j : Int) = i
        · rw [hat j e]; omega
        · exact h' j (by omega) hl
theorem rck (ps : List Int) (k : Nat) (hk : 18 ≤ k) : pacelineref05_Check.f k ps = some (if treeB ps = true then 0 else 50) := by
  have hT := treeB_iff (ps := ps)
  obtain ⟨k, rfl⟩ : ∃ m, k = m + 1 := ⟨k - 1, by omega⟩
  unfold pacelineref05_Check.f
  by_cases h1 : (ps.length : Int) < 1
  · rw [if_pos h1, if_neg (fun h => by have := (hT.mp h).1; omega)]
    simp only [pacelineref05_Check.j0, if_true]
  · rw [if_neg h1]
    by_cases h2 : (ps.length : Int) > 16
    · rw [if_neg (fun h => by have := (hT.mp h).2.1; omega)]
      simp only [pacelineref05_Check.j0, decide_eq_true_eq]
      rw [if_pos h2]
    · simp only [pacelineref05_Check.j0, decide_eq_true_eq]
      rw [if_neg h2]
      obtain ⟨r, hr, ha, hb⟩ := rck_loop ps (by omega) ps.length k 0 (by omega) (by omega) (by omega) (by omega)
      rw [hr]
      by_cases ht : treeB ps = true
      · rw [if_pos ht, ha (fun j _ hl => (hT.mp ht).2.2 j hl)]
      · rw [if_neg ht, hb (fun h => ht (hT.mpr ⟨by omega, by omega, fun j hj => h j (by omega) hj⟩))]

theorem rabove_loop {ps : List Int} (ht : Tree ps) : ∀ a, a < (ps.length : Int) → ∀ (k : Nat) (acc : List Int), (a + 1).toNat < k → acc.length + (a + 1).toNat ≤ 100 →
    pacelineref05_Above.l0 k ps a acc = some (acc ++ upL ps a) := by
  refine up_induct ht (p := fun a => ∀ (k : Nat) (acc : List Int), (a + 1).toNat < k → acc.length + (a + 1).toNat ≤ 100 → pacelineref05_Above.l0 k ps a acc = some (acc ++ upL ps a)) ?_ ?_
  · intro a ha k acc hk hl
    obtain ⟨k, rfl⟩ : ∃ m, k = m + 1 := ⟨k - 1, by omega⟩
    simp only [pacelineref05_Above.l0]
    rw [if_neg (by omega), upL_neg ha, List.append_nil]
  · intro a h0 h1 ih k acc hk hl
    have hr := tree_rd ht h0 h1
    obtain ⟨k, rfl⟩ : ∃ m, k = m + 1 := ⟨k - 1, by omega⟩
    simp only [pacelineref05_Above.l0]
    rw [if_pos (by omega), if_pos (by omega), if_pos h0, if_pos h1, ih k _ (by omega) (by simp; omega), upL_step ht h0 h1]
    simp
theorem rabove (ps : List Int) (a : Int) (k : Nat) (hk : 20 ≤ k) : pacelineref05_Above.f k ps a = some (upL ps a) := by
  unfold pacelineref05_Above.f
  rw [rck ps k (by omega)]
  obtain ⟨k, rfl⟩ : ∃ m, k = m + 1 := ⟨k - 1, by omega⟩
  simp only [Option.bind_some]
  by_cases ht : treeB ps = true
  · have hT := treeB_iff.mp ht
    have := hT.2.1
    rw [if_pos ht, if_pos rfl]
    by_cases ha : a < 0
    · rw [if_pos ha, upL_neg ha]
      simp only [pacelineref05_Above.j0, if_true]
    · rw [if_neg ha]
      simp only [pacelineref05_Above.j0, decide_eq_true_eq]
      by_cases hl : a ≥ (ps.length : Int)
      · rw [if_pos hl, upL_out hl]
      · rw [if_neg hl, rabove_loop hT a (by omega) k [] (by omega) (by simp; omega)]
        simp
  · rw [if_neg ht, if_neg (by omega), upL_odd (fun h => ht (treeB_iff.mpr h))]
    simp only [pacelineref05_Above.j0, if_true]

theorem made_loop (raw : List Int) (hr : ∀ x ∈ raw, 0 ≤ x ∧ x ≤ 255) (d : Nat) : ∀ (k : Nat) (acc : List Int) (i : Int), 0 ≤ i → i ≤ 16 → 16 - i = d → d < k → (acc.length : Int) = i → i ≤ (raw.length : Int) →
    (∀ j : Nat, j < acc.length → -1 ≤ acc.getD j 0 ∧ acc.getD j 0 < (j : Int)) → ∃ p, pacelinelaw05_made.l0 k raw acc i = some p ∧ Tree p := by
  have hend : ∀ (k : Nat) (acc : List Int), acc.length ≤ 16 → (∀ j : Nat, j < acc.length → -1 ≤ acc.getD j 0 ∧ acc.getD j 0 < (j : Int)) →
      ∃ p, (if (acc.length : Int) = 0 then (if acc.length < 17592186044416 then (some (acc ++ [(-1)])) else (none)) else (some acc)) = some p ∧ Tree p := fun k acc hl hok => by
    by_cases h : (acc.length : Int) = 0
    · rw [if_pos h, if_pos (by omega)]
      obtain rfl : acc = [] := List.eq_nil_of_length_eq_zero (by omega)
      exact ⟨_, rfl, by simp, by simp, fun i hi => by simp at hi; subst hi; simp⟩
    · rw [if_neg h]
      exact ⟨_, rfl, by omega, hl, hok⟩
  induction d with
  | zero =>
    intro k acc i h0 h1 hd hk ha hl hok
    obtain ⟨k, rfl⟩ : ∃ m, k = m + 1 := ⟨k - 1, by omega⟩
    simp only [pacelinelaw05_made.l0]
    by_cases hlt : i < (raw.length : Int)
    · rw [if_pos hlt, if_neg (by omega)]
      exact hend k acc (by omega) hok
    · rw [if_neg hlt]
      exact hend k acc (by omega) hok
  | succ d ih =>
    intro k acc i h0 h1 hd hk ha hl hok
    obtain ⟨k, rfl⟩ : ∃ m, k = m + 1 := ⟨k - 1, by omega⟩
    simp only [pacelinelaw05_made.l0]
    by_cases hlt : i < (raw.length : Int)
    · have hx := hr _ (rd_mem h0 hlt)
      rw [if_pos hlt, if_pos (by omega), if_pos h0, wrap64_id (x := i + 1) (by omega) (by omega), if_neg (by omega), if_pos (by omega), wrap64_id (x := rd raw i) (by omega) (by omega), tmod_nonneg (by omega)]
      have hm0 := Int.emod_nonneg (rd raw i) (b := i + 1) (by omega)
      have hm1 := Int.emod_lt_of_pos (rd raw i) (b := i + 1) (by omega)
      rw [wrap64_id (x := rd raw i % (i + 1) - 1) (by omega) (by omega)]
      refine ih k _ _ (by omega) (by omega) (by omega) (by omega) (by simp; omega) (by omega) (fun j hj => ?_)
      by_cases hj' : j < acc.length
      · have := hok j hj'
        rw [List.getD_eq_getElem?_getD, List.getElem?_append_left hj', ← List.getD_eq_getElem?_getD]
        exact this
      · have hj'' : j = acc.length := by simp at hj; omega
        rw [List.getD_eq_getElem?_getD, List.getElem?_append_right (by omega), hj'']
        simp
        omega
    · rw [if_neg hlt]
      exact hend k acc (by omega) hok
theorem made_tree (raw : List Int) (hr : ∀ x ∈ raw, 0 ≤ x ∧ x ≤ 255) : ∃ p, Tree p ∧ ∀ k, 18 ≤ k → pacelinelaw05_made.f k raw = some p := by
  obtain ⟨p, hp, ht⟩ := made_loop raw hr 16 18 [] 0 (by omega) (by omega) (by omega) (by omega) (by simp) (by omega) (fun j hj => by simp at hj)
  refine ⟨p, ht, fun k hk => ?_⟩
  obtain ⟨q, hq, _⟩ := made_loop raw hr 16 k [] 0 (by omega) (by omega) (by omega) (by omega) (by simp) (by omega) (fun j hj => by simp at hj)
  have key : ∀ n, pacelinelaw05_made.l0 (18 + n) raw [] 0 = some p := by
    intro n
    induction n with
    | zero => exact hp
    | succ n ih => exact pacelinelaw05_made.mono_l (18 + n) raw [] 0 _ ih
  have := key (k - 18)
  rw [show 18 + (k - 18) = k by omega] at this
  exact this
/-- A number taken among the classes. -/
theorem class_of {p : List Int} (ht : Tree p) {a : Int} (h0 : 0 ≤ a) (h1 : a ≤ 255) : Int.tmod (wrap64 a) (p.length : Int) = a % (p.length : Int) ∧ 0 ≤ a % (p.length : Int) ∧ a % (p.length : Int) < (p.length : Int) := by
  have := ht.1
  refine ⟨by rw [wrap64_id (by omega) (by omega), tmod_nonneg h0], Int.emod_nonneg _ (by omega), Int.emod_lt_of_pos _ (by omega)⟩

theorem meet_loop {ps : List Int} (ht : Tree ps) : ∀ (n : Nat) (a b : Int), a < (ps.length : Int) → b < (ps.length : Int) → -1 ≤ a → -1 ≤ b → (a + 1).toNat + (b + 1).toNat ≤ n → ∀ k, 2 * n + 2 ≤ k →
    tree_Meet.l0 k ps a b = some (meetV ps a b) := by
  intro n
  induction n with
  | zero =>
    intro a b ha hb ha1 hb1 hn k hk
    obtain ⟨k, rfl⟩ : ∃ m, k = m + 2 := ⟨k - 2, by omega⟩
    have hav : a = -1 := by omega
    have hbv : b = -1 := by omega
    subst hav hbv
    rw [meet_none_left (upL_neg (by omega))]
    simp only [tree_Meet.l0, tree_Meet.j2, if_true, Bool.false_eq_true, if_false]
  | succ n ih =>
    intro a b ha hb ha1 hb1 hn k hk
    obtain ⟨k, rfl⟩ : ∃ m, k = m + 2 := ⟨k - 2, by omega⟩
    by_cases hab : a = b
    · subst hab
      simp only [tree_Meet.l0, tree_Meet.j2, if_true, Bool.false_eq_true, if_false]
      by_cases h0 : 0 ≤ a
      · rw [meet_eq ht h0 ha]
      · rw [meet_none_left (upL_neg (by omega))]; congr 1; omega
    · simp only [tree_Meet.l0, tree_Meet.j2]
      rw [if_neg hab, if_neg hab]
      by_cases h0 : a ≥ 0
      · rw [if_pos h0]
        by_cases h0b : b ≥ 0
        · rw [if_pos (decide_eq_true h0b)]
          by_cases hgt : a > b
          · have hr := tree_rd ht h0 ha
            rw [if_pos hgt, if_pos (by omega), if_pos ha, meet_left ht h0 ha hgt]
            exact ih _ _ (by omega) hb hr.1 hb1 (by omega) k (by omega)
          · have hr := tree_rd ht h0b hb
            rw [if_neg hgt, if_pos (by omega), if_pos hb, meet_right ht h0b hb (by omega)]
            exact ih _ _ ha (by omega) ha1 hr.1 (by omega) k (by omega)
        · rw [if_neg (by simpa using h0b), meet_none_right (upL_neg (by omega))]
      · rw [if_neg h0]
        simp only [Bool.false_eq_true, if_false]
        rw [meet_none_left (upL_neg (by omega))]
theorem tmeet (ps : List Int) (a b : Int) (k : Nat) (hk : 100 ≤ k) (hck : ∀ k, 18 ≤ k → tree_Check.f k ps = some (if treeB ps = true then 0 else 50)) : tree_Meet.f k ps a b = some (meetV ps a b) := by
  unfold tree_Meet.f
  rw [hck k (by omega)]
  obtain ⟨k, rfl⟩ : ∃ m, k = m + 1 := ⟨k - 1, by omega⟩
  simp only [Option.bind_some, tree_Meet.j0, if_true]
  by_cases ht : treeB ps = true
  · have hT := treeB_iff.mp ht
    have := hT.2.1
    rw [if_pos ht, if_pos rfl]
    by_cases ha : a < 0
    · rw [if_pos ha, meet_none_left (upL_neg ha)]
    · rw [if_neg ha]
      by_cases hb : b < 0
      · rw [if_pos hb, meet_none_right (upL_neg hb)]
      · rw [if_neg hb]
        by_cases hal : a ≥ (ps.length : Int)
        · rw [if_pos hal, meet_none_left (upL_out hal)]
        · rw [if_neg hal]
          by_cases hbl : b ≥ (ps.length : Int)
          · rw [if_pos (decide_eq_true hbl), meet_none_right (upL_out hbl)]
          · rw [if_neg (by simpa using hbl)]
            exact meet_loop hT 34 a b (by omega) (by omega) (by omega) (by omega) (by omega) k (by omega)
  · rw [if_neg ht, if_neg (by omega), meet_none_left (upL_odd (fun h => ht (treeB_iff.mpr h)))]

theorem same_loop (xs : List Int) (hx : xs.length ≤ 100000) (d : Nat) : ∀ (k : Nat) (i : Int), 0 ≤ i → i ≤ (xs.length : Int) → (xs.length : Int) - i = d → d < k → pacelinelaw05_same.l0 k xs xs i = some true := by
  induction d with
  | zero =>
    intro k i h0 h1 hd hk
    obtain ⟨k, rfl⟩ : ∃ m, k = m + 1 := ⟨k - 1, by omega⟩
    simp only [pacelinelaw05_same.l0]
    rw [if_neg (by omega)]
  | succ d ih =>
    intro k i h0 h1 hd hk
    obtain ⟨k, rfl⟩ : ∃ m, k = m + 1 := ⟨k - 1, by omega⟩
    simp only [pacelinelaw05_same.l0, if_true]
    rw [if_pos (by omega), if_pos h0, if_pos (by omega), wrap64_id (by omega) (by omega)]
    exact ih k (i + 1) (by omega) (by omega) (by omega) (by omega)
theorem same_self (xs : List Int) (hx : xs.length ≤ 100000) (k : Nat) (hk : xs.length < k) : pacelinelaw05_same.f k xs xs = some true := by
  unfold pacelinelaw05_same.f
  rw [if_pos rfl]
  exact same_loop xs hx xs.length k 0 (by omega) (by omega) (by omega) hk

theorem roots_loop {p : List Int} (ht : Tree p) {a b : Int} (ha0 : 0 ≤ a) (ha : a < (p.length : Int)) (hb0 : 0 ≤ b) (hb : b < (p.length : Int)) (d : Nat) : ∀ (k : Nat) (i : Int), 1 ≤ i → i ≤ ((upL p a).length : Int) → ((upL p a).length : Int) - i = d → d + 120 < k →
    pacelinelaw05_TreeRoots.l0 k p (upL p a) (upL p b) i = some true := by
  have hl := upL_length p a
  have hlb := upL_length p b
  have na := up_ne ht ha0 ha
  have nb := up_ne ht hb0 hb
  obtain ⟨sa0, sa1, _⟩ := up_shape ht a ha ha0
  obtain ⟨sb0, _, _⟩ := up_shape ht b hb hb0
  induction d with
  | zero =>
    intro k i h1 h2 hd hk
    obtain ⟨k, rfl⟩ : ∃ m, k = m + 1 := ⟨k - 1, by omega⟩
    simp only [pacelinelaw05_TreeRoots.l0]
    rw [if_neg (by omega), wrap64_id (x := ((upL p a).length : Int) - 1) (by omega) (by omega), wrap64_id (x := ((upL p b).length : Int) - 1) (by omega) (by omega),
      if_pos (by omega), if_pos (by omega), if_pos (by omega), if_pos (by omega), if_pos (by omega), if_pos (by omega), sa0, sb0, tmeet p a b k (by omega) (tree_Above.ck p)]
    simp only [Option.bind_some]
    have hiff := roots_iff ht ha0 ha hb0 hb
    rw [if_pos, rabove p a k (by omega)]
    · simp only [Option.bind_some]
      rw [same_self _ (by omega) k (by omega)]
      rfl
    · rw [beq_iff_eq]
      by_cases hm : 0 ≤ meetV p a b
      · rw [decide_eq_true hm, beq_iff_eq]
        exact hiff.mpr hm
      · rw [decide_eq_false hm, beq_eq_false_iff_ne]
        exact fun h => hm (hiff.mp h)
  | succ d ih =>
    intro k i h1 h2 hd hk
    obtain ⟨k, rfl⟩ : ∃ m, k = m + 1 := ⟨k - 1, by omega⟩
    obtain ⟨g1, g2⟩ := sa1 i h1 (by omega)
    have hm := up_le ht ha (rd_mem' (l := upL p a) (i := i - 1) (by omega) (by omega))
    simp only [pacelinelaw05_TreeRoots.l0]
    rw [if_pos (by omega), if_pos (by omega), wrap64_id (x := i - 1) (by omega) (by omega), if_pos (by omega), if_pos (by omega), if_neg (by omega), if_pos (by omega), if_pos (by omega), if_pos g1, wrap64_id (x := i + 1) (by omega) (by omega)]
    exact ih k (i + 1) (by omega) (by omega) (by omega) (by omega)
theorem TreeRoots : pacelinelaw05_TreeRoots.Pure := by
  intro l0 a1 a2 h0 w1 w2
  have r1 := wf_u8 w1
  have r2 := wf_u8 w2
  obtain ⟨p, ht, hp⟩ := made_tree l0 (fun x hx => wf_u8 (h0.2 x hx))
  obtain ⟨e1, c1, d1⟩ := class_of ht r1.1 r1.2
  obtain ⟨e2, c2, d2⟩ := class_of ht r2.1 r2.2
  refine ⟨200, ?_⟩
  unfold pacelinelaw05_TreeRoots.f
  rw [hp 200 (by omega)]
  simp only [Option.bind_some]
  rw [if_neg (by have := ht.1; omega), e1, e2]
  generalize a1 % (p.length : Int) = a at *
  generalize a2 % (p.length : Int) = b at *
  have l1 := upL_length p a
  have n1 := up_ne ht c1 d1
  have n2 := up_ne ht c2 d2
  obtain ⟨_, _, hroot⟩ := up_shape ht a d1 c1
  have hm := up_le ht d1 (rd_mem' (l := upL p a) (i := ((upL p a).length : Int) - 1) (by omega) (by omega))
  simp only [tree_Above.f, Option.bind_some]
  rw [if_neg (by omega), if_neg (by omega), wrap64_id (x := ((upL p a).length : Int) - 1) (by omega) (by omega), if_pos (by omega), if_pos (by omega), if_pos hm.1, if_pos (by omega), hroot]
  show pacelinelaw05_TreeRoots.j0 (199 + 1) _ _ _ _ = some true
  simp only [pacelinelaw05_TreeRoots.j0, bne_self_eq_false, Bool.false_eq_true, if_false]
  exact roots_loop ht c1 d1 c2 d2 ((upL p a).length - 1) 199 1 (by omega) (by omega) (by omega) (by omega)

end Go.Proofs.Ytecjpnfhanimiaa.Pure
