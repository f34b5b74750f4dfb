/- 'pacelinelaw05.TreeAll': whatever tree is made of any numbers: the law answers true. Conditions: none beyond the form's own reach. -/
import Derived.Test.YtecjpnfhanimiaaPTreeAllx
import Derived.Test.YtecjpnfhanimiaaTreeLib
set_option linter.unusedVariables false
set_option linter.unusedSimpArgs false
namespace Go.Proofs.Ytecjpnfhanimiaa.Pure
open Go.RowKit Go.Proofs.Ytecjpnfhanimiaa.PTreeAll Go.Proofs.YtecjpnfhanimiaaR Go.Proofs.YtecjpnfhanimiaaW.PrintWords Go.Proofs.YtecjpnfhanimiaaW.PrintLast Go.Proofs.YtecjpnfhanimiaaU

theorem some_of_le {α : Type} {f : Nat → Option α} {v : α} {n : Nat} (h : ∀ k, n ≤ k → f k = some v) {k : Nat} (hk : n ≤ k) : f k = some v := h k hk
/-- From place i on all is as a tree's. -/
def okFrom (ps : List Int) (i : Int) : Prop := ∀ j : Nat, i ≤ (j : Int) → j < ps.length → -1 ≤ ps.getD j 0 ∧ ps.getD j 0 < (j : Int)
theorem rck_loop (ps : List Int) (h16 : ps.length ≤ 16) (d : Nat) : ∀ (k : Nat) (i : Int), 0 ≤ i → i ≤ (ps.length : Int) → (ps.length : Int) - i = d → d < k →
    ∃ r, pacelineref05_Check.l0 k ps i = some r ∧ (okFrom ps i → r = 0) ∧ (¬ okFrom ps i → r = 50) := by
  induction d with
  | zero =>
    intro k i h0 h1 hd hk
    obtain ⟨k, rfl⟩ : ∃ m, k = m + 1 := ⟨k - 1, by omega⟩
    exact ⟨0, by simp only [pacelineref05_Check.l0]; rw [if_neg (by omega)], fun _ => rfl, fun h => absurd (fun j hj hl => by omega) h⟩
  | succ d ih =>
    intro k i h0 h1 hd hk
    obtain ⟨k, rfl⟩ : ∃ m, k = m + 1 := ⟨k - 1, by omega⟩
    have hlt : i < (ps.length : Int) := by omega
    have hat : ∀ j : Nat, (j : Int) = i → ps.getD j 0 = rd ps i := fun j hj => by
      subst hj
      rfl
    simp only [pacelineref05_Check.l0]
    rw [if_pos hlt, if_pos h0]
    by_cases h2 : rd ps i < -1
    · exact ⟨50, by rw [if_pos h2], fun h => by have := h i.toNat (by omega) (by omega); rw [hat i.toNat (by omega)] at this; omega, fun _ => rfl⟩
    · rw [if_neg h2]
      by_cases h3 : rd ps i ≥ i
      · exact ⟨50, by rw [if_pos h3], fun h => by have := h i.toNat (by omega) (by omega); rw [hat i.toNat (by omega)] at this; omega, fun _ => rfl⟩
      · rw [if_neg h3, wrap64_id (by omega) (by omega)]
        obtain ⟨r, hr, ha, hb⟩ := ih k (i + 1) (by omega) (by omega) (by omega) (by omega)
        refine ⟨r, hr, fun h => ha (fun j hj hl => h j (by omega) hl), fun h => hb (fun h' => h (fun j hj hl => ?_))⟩
        by_cases e : (j : Int) = i
        · rw [hat j e]; omega
        · exact h' j (by omega) hl
theorem rck (ps : List Int) (k : Nat) (hk : 18 ≤ k) : pacelineref05_Check.f k ps = some (if treeB ps = true then 0 else 50) := by
  have hT := treeB_iff (ps := ps)
  obtain ⟨k, rfl⟩ : ∃ m, k = m + 1 := ⟨k - 1, by omega⟩
  unfold pacelineref05_Check.f
  by_cases h1 : (ps.length : Int) < 1
  · rw [if_pos h1, if_neg (fun h => by have := (hT.mp h).1; omega)]
    simp only [pacelineref05_Check.j0, if_true]
  · rw [if_neg h1]
    by_cases h2 : (ps.length : Int) > 16
    · rw [if_neg (fun h => by have := (hT.mp h).2.1; omega)]
      simp only [pacelineref05_Check.j0, decide_eq_true_eq]
      rw [if_pos h2]
    · simp only [pacelineref05_Check.j0, decide_eq_true_eq]
      rw [if_neg h2]
      obtain ⟨r, hr, ha, hb⟩ := rck_loop ps (by omega) ps.length k 0 (by omega) (by omega) (by omega) (by omega)
      rw [hr]
      by_cases ht : treeB ps = true
      · rw [if_pos ht, ha (fun j _ hl => (hT.mp ht).2.2 j hl)]
      · rw [if_neg ht, hb (fun h => ht (hT.mpr ⟨by omega, by omega, fun j hj => h j (by omega) hj⟩))]

theorem rabove_loop {ps : List Int} (ht : Tree ps) : ∀ a, a < (ps.length : Int) → ∀ (k : Nat) (acc : List Int), (a + 1).toNat < k → acc.length + (a + 1).toNat ≤ 100 →
    pacelineref05_Above.l0 k ps a acc = some (acc ++ upL ps a) := by
  refine up_induct ht (p := fun a => ∀ (k : Nat) (acc : List Int), (a + 1).toNat < k → acc.length + (a + 1).toNat ≤ 100 → pacelineref05_Above.l0 k ps a acc = some (acc ++ upL ps a)) ?_ ?_
  · intro a ha k acc hk hl
    obtain ⟨k, rfl⟩ : ∃ m, k = m + 1 := ⟨k - 1, by omega⟩
    simp only [pacelineref05_Above.l0]
    rw [if_neg (by omega), upL_neg ha, List.append_nil]
  · intro a h0 h1 ih k acc hk hl
    have hr := tree_rd ht h0 h1
    obtain ⟨k, rfl⟩ : ∃ m, k = m + 1 := ⟨k - 1, by omega⟩
    simp only [pacelineref05_Above.l0]
    rw [if_pos (by omega), if_pos (by omega), if_pos h0, if_pos h1, ih k _ (by omega) (by simp; omega), upL_step ht h0 h1]
    simp
theorem rabove (ps : List Int) (a : Int) (k : Nat) (hk : 20 ≤ k) : pacelineref05_Above.f k ps a = some (upL ps a) := by
  unfold pacelineref05_Above.f
  rw [rck ps k (by omega)]
  obtain ⟨k, rfl⟩ : ∃ m, k = m + 1 := ⟨k - 1, by omega⟩
  simp only [Option.bind_some]
  by_cases ht : treeB ps = true
  · have hT := treeB_iff.mp ht
    have := hT.2.1
    rw [if_pos ht, if_pos rfl]
    by_cases ha : a < 0
    · rw [if_pos ha, upL_neg ha]
      simp only [pacelineref05_Above.j0, if_true]
    · rw [if_neg ha]
      simp only [pacelineref05_Above.j0, decide_eq_true_eq]
      by_cases hl : a ≥ (ps.length : Int)
      · rw [if_pos hl, upL_out hl]
      · rw [if_neg hl, rabove_loop hT a (by omega) k [] (by omega) (by simp; omega)]
        simp
  · rw [if_neg ht, if_neg (by omega), upL_odd (fun h => ht (treeB_iff.mpr h))]
    simp only [pacelineref05_Above.j0, if_true]

theorem has_loop (xs : List Int) (b : Int) (hx : xs.length ≤ 100000) (d : Nat) : ∀ (k : Nat) (i : Int), 0 ≤ i → i ≤ (xs.length : Int) → (xs.length : Int) - i = d → d < k →
    pacelineref05_Has.l0 k xs b i = some (decide (b ∈ xs.drop i.toNat)) := by
  induction d with
  | zero =>
    intro k i h0 h1 hd hk
    obtain ⟨k, rfl⟩ : ∃ m, k = m + 1 := ⟨k - 1, by omega⟩
    simp only [pacelineref05_Has.l0]
    rw [if_neg (by omega), List.drop_eq_nil_of_le (by omega)]
    simp
  | succ d ih =>
    intro k i h0 h1 hd hk
    obtain ⟨k, rfl⟩ : ∃ m, k = m + 1 := ⟨k - 1, by omega⟩
    have hlt : i.toNat < xs.length := by omega
    have e : xs.drop i.toNat = rd xs i :: xs.drop (i.toNat + 1) := by
      rw [List.drop_eq_getElem_cons hlt]
      unfold rd
      rw [List.getD_eq_getElem?_getD, List.getElem?_eq_getElem hlt]
      rfl
    simp only [pacelineref05_Has.l0]
    rw [if_pos (by omega), if_pos h0, e]
    by_cases hb : rd xs i = b
    · rw [if_pos hb, decide_eq_true (by rw [hb]; exact List.mem_cons_self)]
    · rw [if_neg hb, wrap64_id (by omega) (by omega), ih k (i + 1) (by omega) (by omega) (by omega) (by omega), show (i + 1).toNat = i.toNat + 1 by omega]
      congr 1
      simp [List.mem_cons, Ne.symm hb]
theorem rhas (xs : List Int) (b : Int) (hx : xs.length ≤ 100000) (k : Nat) (hk : xs.length < k) : pacelineref05_Has.f k xs b = some (decide (b ∈ xs)) := by
  unfold pacelineref05_Has.f
  rw [has_loop xs b hx xs.length k 0 (by omega) (by omega) (by omega) hk]
  rfl

theorem risA (ps : List Int) (a b : Int) (k : Nat) (hk : 20 ≤ k) : pacelineref05_IsA.f k ps a b = some (decide (b ∈ upL ps a)) := by
  have := upL_length ps a
  unfold pacelineref05_IsA.f
  rw [rabove ps a k hk]
  simp only [Option.bind_some]
  rw [rhas _ _ (by omega) k (by omega)]
  rfl

theorem made_loop (raw : List Int) (hr : ∀ x ∈ raw, 0 ≤ x ∧ x ≤ 255) (d : Nat) : ∀ (k : Nat) (acc : List Int) (i : Int), 0 ≤ i → i ≤ 16 → 16 - i = d → d < k → (acc.length : Int) = i → i ≤ (raw.length : Int) →
    (∀ j : Nat, j < acc.length → -1 ≤ acc.getD j 0 ∧ acc.getD j 0 < (j : Int)) → ∃ p, pacelinelaw05_made.l0 k raw acc i = some p ∧ Tree p := by
  have hend : ∀ (k : Nat) (acc : List Int), acc.length ≤ 16 → (∀ j : Nat, j < acc.length → -1 ≤ acc.getD j 0 ∧ acc.getD j 0 < (j : Int)) →
      ∃ p, (if (acc.length : Int) = 0 then (if acc.length < 17592186044416 then (some (acc ++ [(-1)])) else (none)) else (some acc)) = some p ∧ Tree p := fun k acc hl hok => by
    by_cases h : (acc.length : Int) = 0
    · rw [if_pos h, if_pos (by omega)]
      obtain rfl : acc = [] := List.eq_nil_of_length_eq_zero (by omega)
      exact ⟨_, rfl, by simp, by simp, fun i hi => by simp at hi; subst hi; simp⟩
    · rw [if_neg h]
      exact ⟨_, rfl, by omega, hl, hok⟩
  induction d with
  | zero =>
    intro k acc i h0 h1 hd hk ha hl hok
    obtain ⟨k, rfl⟩ : ∃ m, k = m + 1 := ⟨k - 1, by omega⟩
    simp only [pacelinelaw05_made.l0]
    by_cases hlt : i < (raw.length : Int)
    · rw [if_pos hlt, if_neg (by omega)]
      exact hend k acc (by omega) hok
    · rw [if_neg hlt]
      exact hend k acc (by omega) hok
  | succ d ih =>
    intro k acc i h0 h1 hd hk ha hl hok
    obtain ⟨k, rfl⟩ : ∃ m, k = m + 1 := ⟨k - 1, by omega⟩
    simp only [pacelinelaw05_made.l0]
    by_cases hlt : i < (raw.length : Int)
    · have hx := hr _ (rd_mem h0 hlt)
      rw [if_pos hlt, if_pos (by omega), if_pos h0, wrap64_id (x := i + 1) (by omega) (by omega), if_neg (by omega), if_pos (by omega), wrap64_id (x := rd raw i) (by omega) (by omega), tmod_nonneg (by omega)]
      have hm0 := Int.emod_nonneg (rd raw i) (b := i + 1) (by omega)
      have hm1 := Int.emod_lt_of_pos (rd raw i) (b := i + 1) (by omega)
      rw [wrap64_id (x := rd raw i % (i + 1) - 1) (by omega) (by omega)]
      refine ih k _ _ (by omega) (by omega) (by omega) (by omega) (by simp; omega) (by omega) (fun j hj => ?_)
      by_cases hj' : j < acc.length
      · have := hok j hj'
        rw [List.getD_eq_getElem?_getD, List.getElem?_append_left hj', ← List.getD_eq_getElem?_getD]
        exact this
      · have hj'' : j = acc.length := by simp at hj; omega
        rw [List.getD_eq_getElem?_getD, List.getElem?_append_right (by omega), hj'']
        simp
        omega
    · rw [if_neg hlt]
      exact hend k acc (by omega) hok
theorem made_tree (raw : List Int) (hr : ∀ x ∈ raw, 0 ≤ x ∧ x ≤ 255) : ∃ p, Tree p ∧ ∀ k, 18 ≤ k → pacelinelaw05_made.f k raw = some p := by
  obtain ⟨p, hp, ht⟩ := made_loop raw hr 16 18 [] 0 (by omega) (by omega) (by omega) (by omega) (by simp) (by omega) (fun j hj => by simp at hj)
  refine ⟨p, ht, fun k hk => ?_⟩
  obtain ⟨q, hq, _⟩ := made_loop raw hr 16 k [] 0 (by omega) (by omega) (by omega) (by omega) (by simp) (by omega) (fun j hj => by simp at hj)
  have key : ∀ n, pacelinelaw05_made.l0 (18 + n) raw [] 0 = some p := by
    intro n
    induction n with
    | zero => exact hp
    | succ n ih => exact pacelinelaw05_made.mono_l (18 + n) raw [] 0 _ ih
  have := key (k - 18)
  rw [show 18 + (k - 18) = k by omega] at this
  exact this
/-- A number taken among the classes. -/
theorem class_of {p : List Int} (ht : Tree p) {a : Int} (h0 : 0 ≤ a) (h1 : a ≤ 255) : Int.tmod (wrap64 a) (p.length : Int) = a % (p.length : Int) ∧ 0 ≤ a % (p.length : Int) ∧ a % (p.length : Int) < (p.length : Int) := by
  have := ht.1
  refine ⟨by rw [wrap64_id (by omega) (by omega), tmod_nonneg h0], Int.emod_nonneg _ (by omega), Int.emod_lt_of_pos _ (by omega)⟩

theorem same_loop (xs : List Int) (hx : xs.length ≤ 100000) (d : Nat) : ∀ (k : Nat) (i : Int), 0 ≤ i → i ≤ (xs.length : Int) → (xs.length : Int) - i = d → d < k → pacelinelaw05_same.l0 k xs xs i = some true := by
  induction d with
  | zero =>
    intro k i h0 h1 hd hk
    obtain ⟨k, rfl⟩ : ∃ m, k = m + 1 := ⟨k - 1, by omega⟩
    simp only [pacelinelaw05_same.l0]
    rw [if_neg (by omega)]
  | succ d ih =>
    intro k i h0 h1 hd hk
    obtain ⟨k, rfl⟩ : ∃ m, k = m + 1 := ⟨k - 1, by omega⟩
    simp only [pacelinelaw05_same.l0, if_true]
    rw [if_pos (by omega), if_pos h0, if_pos (by omega), wrap64_id (by omega) (by omega)]
    exact ih k (i + 1) (by omega) (by omega) (by omega) (by omega)
theorem same_self (xs : List Int) (hx : xs.length ≤ 100000) (k : Nat) (hk : xs.length < k) : pacelinelaw05_same.f k xs xs = some true := by
  unfold pacelinelaw05_same.f
  rw [if_pos rfl]
  exact same_loop xs hx xs.length k 0 (by omega) (by omega) (by omega) hk

theorem range_filter_succ (p : Int → Bool) (n : Nat) : ((List.range (n + 1)).map Int.ofNat).filter p = ((List.range n).map Int.ofNat).filter p ++ if p (n : Int) = true then [(n : Int)] else [] := by
  rw [List.range_succ, List.map_append, List.filter_append]
  congr 1
  show List.filter p [(n : Int)] = _
  rw [List.filter_cons]
  split <;> rfl
theorem below_loop (ps : List Int) (a : Int) (d : Nat) : ∀ (k n : Nat) (m : Int), (n : Int) ≤ m → m ≤ 16 → m - n = d → d < k →
    tree_Below.l0 k ps a (((List.range n).map Int.ofNat).filter fun i => decide (a ∈ upL ps i)) m n = some (((List.range m.toNat).map Int.ofNat).filter fun i => decide (a ∈ upL ps i)) := by
  induction d with
  | zero =>
    intro k n m h1 h2 hd hk
    obtain ⟨k, rfl⟩ : ∃ m, k = m + 1 := ⟨k - 1, by omega⟩
    simp only [tree_Below.l0]
    rw [if_neg (by omega), show m.toNat = n by omega]
  | succ d ih =>
    intro k n m h1 h2 hd hk
    obtain ⟨k, rfl⟩ : ∃ m, k = m + 1 := ⟨k - 1, by omega⟩
    have hi := ih k (n + 1) m (by omega) h2 (by omega) (by omega)
    have hlen : (((List.range n).map Int.ofNat).filter fun i => decide (a ∈ upL ps i)).length ≤ 16 := by
      refine Nat.le_trans (List.length_filter_le _ _) ?_
      simp; omega
    rw [range_filter_succ] at hi
    simp only [tree_Below.l0, tree_IsA.f, Option.bind_some]
    rw [if_pos (by omega), wrap64_id (by omega) (by omega)]
    by_cases h : a ∈ upL ps (n : Int)
    · rw [if_pos (decide_eq_true h), if_pos (by omega)]
      rw [if_pos (decide_eq_true h)] at hi
      exact hi
    · rw [if_neg (by simpa using h)]
      rw [if_neg (by simpa using h), List.append_nil] at hi
      exact hi
theorem tbelow (ps : List Int) (a : Int) (k : Nat) (hk : 20 ≤ k) : tree_Below.f k ps a = some (belowL ps a) := by
  unfold tree_Below.f
  have hm : mn (ps.length : Int) 16 = ((min ps.length 16 : Nat) : Int) := by unfold mn; omega
  rw [hm]
  have := below_loop ps a (min ps.length 16) k 0 ((min ps.length 16 : Nat) : Int) (by omega) (by omega) (by omega) (by omega)
  exact this

theorem rbelow_loop (ps : List Int) (a : Int) (d : Nat) : ∀ (k n : Nat), n ≤ min ps.length 16 → min ps.length 16 - n = d → 2 * d + 24 < k →
    pacelineref05_Below.l0 k ps a (((List.range n).map Int.ofNat).filter fun i => decide (a ∈ upL ps i)) n = some (belowL ps a) := by
  induction d with
  | zero =>
    intro k n h1 hd hk
    obtain ⟨k, rfl⟩ : ∃ m, k = m + 2 := ⟨k - 2, by omega⟩
    simp only [pacelineref05_Below.l0, pacelineref05_Below.j1]
    have hn : n = min ps.length 16 := by omega
    have e : (((List.range n).map Int.ofNat).filter fun i => decide (a ∈ upL ps i)) = belowL ps a := by rw [hn]; rfl
    rw [e]
    by_cases h : (n : Int) < (ps.length : Int)
    · rw [if_pos h, if_neg (by simp; omega)]
    · rw [if_neg h]
      simp only [Bool.false_eq_true, if_false]
  | succ d ih =>
    intro k n h1 hd hk
    obtain ⟨k, rfl⟩ : ∃ m, k = m + 2 := ⟨k - 2, by omega⟩
    have hi := ih k (n + 1) (by omega) (by omega) (by omega)
    have hlen : (((List.range n).map Int.ofNat).filter fun i => decide (a ∈ upL ps i)).length ≤ 16 := by
      refine Nat.le_trans (List.length_filter_le _ _) ?_
      simp; omega
    rw [range_filter_succ] at hi
    simp only [pacelineref05_Below.l0, pacelineref05_Below.j1]
    rw [if_pos (by omega), if_pos (by simp; omega), risA ps _ _ k (by omega)]
    simp only [Option.bind_some]
    rw [wrap64_id (by omega) (by omega)]
    by_cases h : a ∈ upL ps (n : Int)
    · rw [if_pos (decide_eq_true h), if_pos (by omega)]
      rw [if_pos (decide_eq_true h)] at hi
      exact hi
    · rw [if_neg (by simpa using h)]
      rw [if_neg (by simpa using h), List.append_nil] at hi
      exact hi
theorem rbelow (ps : List Int) (a : Int) (k : Nat) (hk : 60 ≤ k) : pacelineref05_Below.f k ps a = some (belowL ps a) := by
  unfold pacelineref05_Below.f
  exact rbelow_loop ps a (min ps.length 16) k 0 (by omega) (by omega) (by omega)

/-- How many of the first n, told by a test. -/
def cnt (n : Nat) (q : Nat → Bool) : Nat := ((List.range n).filter q).length
theorem cnt_succ (n : Nat) (q : Nat → Bool) : cnt (n + 1) q = cnt n q + (if q n = true then 1 else 0) := by
  unfold cnt
  rw [List.range_succ, List.filter_append, List.length_append, List.filter_cons]
  split <;> simp_all
def sum (n : Nat) (f : Nat → Nat) : Nat := match n with
  | 0 => 0
  | n + 1 => sum n f + f n
theorem sum_add (n : Nat) (f g : Nat → Nat) : sum n (fun i => f i + g i) = sum n f + sum n g := by
  induction n with
  | zero => rfl
  | succ n ih => simp only [sum, ih]; omega
theorem sum_congr (n : Nat) {f g : Nat → Nat} (h : ∀ i, i < n → f i = g i) : sum n f = sum n g := by
  induction n with
  | zero => rfl
  | succ n ih => simp only [sum]; rw [ih (fun i hi => h i (by omega)), h n (by omega)]
theorem cnt_sum (n : Nat) (q : Nat → Bool) : cnt n q = sum n fun i => if q i = true then 1 else 0 := by
  induction n with
  | zero => rfl
  | succ n ih => rw [cnt_succ, ih]; rfl
theorem sum_swap (n m : Nat) (f : Nat → Nat → Nat) : sum n (fun i => sum m (fun j => f i j)) = sum m (fun j => sum n (fun i => f i j)) := by
  induction n with
  | zero => simp only [sum]; induction m with
    | zero => rfl
    | succ m ih => simp only [sum]; omega
  | succ n ih => simp only [sum]; rw [ih, ← sum_add]
/-- How many stand above a: those of which it is a kind. -/
theorem up_count {p : List Int} (ht : Tree p) : ∀ a, a < (p.length : Int) → (upL p a).length = cnt p.length (fun c => decide ((c : Int) ∈ upL p a)) := by
  refine up_induct ht (p := fun a => (upL p a).length = cnt p.length (fun c => decide ((c : Int) ∈ upL p a))) ?_ ?_
  · intro a ha
    rw [upL_neg ha]
    unfold cnt
    rw [List.filter_eq_nil_iff.mpr (fun x _ => by simp)]
    rfl
  · intro a h0 h1 ih
    have hr := tree_rd ht h0 h1
    have hni : a ∉ upL p (rd p a) := fun h => by have := up_le ht (show rd p a < _ by omega) h; omega
    rw [upL_step ht h0 h1, List.length_cons, ih, cnt_sum, cnt_sum]
    have : (1 : Nat) = sum p.length fun c => if c = a.toNat then 1 else 0 := by
      have hs : ∀ n : Nat, (sum n fun c => if c = a.toNat then 1 else 0) = if a.toNat < n then 1 else 0 := by
        intro n
        induction n with
        | zero => rfl
        | succ n ihn =>
          simp only [sum]
          rw [ihn]
          by_cases e : n = a.toNat
          · rw [if_pos e, if_neg (by omega), if_pos (by omega)]
          · rw [if_neg e]
            by_cases e2 : a.toNat < n
            · rw [if_pos e2, if_pos (by omega)]
            · rw [if_neg e2, if_neg (by omega)]
      rw [hs, if_pos (by omega)]
    rw [show ∀ x : Nat, x + 1 = x + sum p.length (fun c => if c = a.toNat then 1 else 0) from fun x => by rw [← this], ← sum_add]
    clear this
    refine sum_congr _ fun c hc => ?_
    by_cases e : c = a.toNat
    · have e' : (c : Int) = a := by omega
      rw [if_pos e, e']
      rw [if_neg (by simpa using hni), if_pos (by simp)]
    · have e' : ¬ (c : Int) = a := by omega
      rw [if_neg e, Nat.add_zero]
      by_cases hm : (c : Int) ∈ upL p (rd p a)
      · rw [if_pos (by simpa using hm), if_pos (by simp [hm])]
      · rw [if_neg (by simpa using hm), if_neg (by simp [hm, e'])]
theorem below_count {p : List Int} (ht : Tree p) (c : Int) : (belowL p c).length = cnt p.length (fun a => decide (c ∈ upL p (a : Int))) := by
  unfold belowL cnt
  rw [List.filter_map, List.length_map, show min p.length 16 = p.length by have := ht.2.1; omega]
  rfl
theorem sum_le (n b : Nat) {f : Nat → Nat} (h : ∀ i, i < n → f i ≤ b) : sum n f ≤ n * b := by
  induction n with
  | zero => simp [sum]
  | succ n ih =>
    have := ih (fun i hi => h i (by omega)); have := h n (by omega)
    simp only [sum]; rw [Nat.succ_mul]; omega
theorem sum_ge (n : Nat) {f : Nat → Nat} (h : ∀ i, i < n → 1 ≤ f i) : n ≤ sum n f := by
  induction n with
  | zero => simp
  | succ n ih =>
    have := ih (fun i hi => h i (by omega)); have := h n (by omega)
    simp only [sum]; omega
/-- As many above as below. -/
theorem both_sums {p : List Int} (ht : Tree p) : sum p.length (fun c => (upL p (c : Int)).length) = sum p.length (fun c => (belowL p (c : Int)).length) := by
  have h1 : sum p.length (fun a => (upL p (a : Int)).length) = sum p.length (fun a => sum p.length fun c => if decide ((c : Int) ∈ upL p (a : Int)) = true then 1 else 0) :=
    sum_congr _ fun a ha => by rw [up_count ht (a : Int) (by omega), cnt_sum]
  have h2 : sum p.length (fun c => (belowL p (c : Int)).length) = sum p.length (fun c => sum p.length fun a => if decide ((c : Int) ∈ upL p (a : Int)) = true then 1 else 0) :=
    sum_congr _ fun c hc => by rw [below_count ht (c : Int), cnt_sum]
  rw [h1, h2]
  exact sum_swap _ _ _

theorem below_rising (p : List Int) (c : Int) : (belowL p c).Pairwise (· < ·) := by
  unfold belowL
  refine List.Pairwise.filter _ ?_
  rw [List.pairwise_map]
  refine List.Pairwise.imp ?_ List.pairwise_lt_range
  intro a b h
  show (a : Int) < (b : Int)
  omega
theorem rising_at {l : List Int} (h : l.Pairwise (· < ·)) {i : Int} (h0 : 1 ≤ i) (h1 : i < (l.length : Int)) : rd l (i - 1) < rd l i := by
  have h2 := List.pairwise_iff_getElem.mp h (i - 1).toNat i.toNat (by omega) (by omega) (by omega)
  unfold rd
  rw [List.getD_eq_getElem?_getD, List.getD_eq_getElem?_getD, List.getElem?_eq_getElem (show (i - 1).toNat < l.length by omega), List.getElem?_eq_getElem (show i.toNat < l.length by omega)]
  exact h2
theorem all_inner {p : List Int} (ht : Tree p) {c u v : Int} (h0 : 0 ≤ c) (hc : c < (p.length : Int)) {R : Option Bool} (K : Nat) (hnext : ∀ k, K ≤ k → pacelinelaw05_TreeAll.l0 k p u v (c + 1) = R) (d : Nat) :
    ∀ (k : Nat) (i : Int), 0 ≤ i → i ≤ ((belowL p c).length : Int) → ((belowL p c).length : Int) - i = d → d + K + 100 < k → pacelinelaw05_TreeAll.l1 k p u v c (belowL p c) i = R := by
  have hl := belowL_length p c
  have hlen := ht.2.1
  induction d with
  | zero =>
    intro k i h1 h2 hd hk
    obtain ⟨k, rfl⟩ : ∃ m, k = m + 1 := ⟨k - 1, by omega⟩
    simp only [pacelinelaw05_TreeAll.l1]
    rw [if_neg (by omega), rbelow p c k (by omega)]
    simp only [Option.bind_some]
    rw [same_self _ (by omega) k (by omega), wrap64_id (x := c + 1) (by omega) (by omega), hnext k (by omega)]
    simp
  | succ d ih =>
    intro k i h1 h2 hd hk
    obtain ⟨k, rfl⟩ : ∃ m, k = m + 1 := ⟨k - 1, by omega⟩
    have hmem := mem_belowL.mp (rd_mem' (l := belowL p c) (i := i) h1 (by omega))
    simp only [pacelinelaw05_TreeAll.l1, tree_IsA.f, Option.bind_some]
    rw [if_pos (by omega), wrap64_id (x := i + 1) (by omega) (by omega), ih k (i + 1) (by omega) (by omega) (by omega) (by omega)]
    by_cases hi : i > 0
    · have hr := rising_at (below_rising p c) (show 1 ≤ i by omega) (by omega)
      rw [if_pos hi, if_pos h1, wrap64_id (x := i - 1) (by omega) (by omega), if_pos (by omega), if_pos (by omega), if_neg (by omega), if_pos (decide_eq_true hmem)]
    · rw [if_neg hi, if_pos h1, if_pos (decide_eq_true hmem)]
theorem all_outer {p : List Int} (ht : Tree p) (d : Nat) : ∀ (k n : Nat), n ≤ p.length → p.length - n = d → d * 200 + 200 < k →
    pacelinelaw05_TreeAll.l0 k p ((sum n fun c => (upL p (c : Int)).length : Nat) : Int) ((sum n fun c => (belowL p (c : Int)).length : Nat) : Int) n = some true := by
  have hlen := ht.2.1
  induction d with
  | zero =>
    intro k n h1 hd hk
    obtain ⟨k, rfl⟩ : ∃ m, k = m + 1 := ⟨k - 1, by omega⟩
    obtain rfl : n = p.length := by omega
    have hge := sum_ge p.length (f := fun c => (upL p (c : Int)).length) (fun c hc => up_ne ht (by omega) (by omega))
    simp only [pacelinelaw05_TreeAll.l0]
    rw [if_neg (by omega), both_sums ht, if_pos rfl, if_pos (by rw [← both_sums ht]; omega), tree_IsA.ck p k (by omega), if_pos (treeB_iff.mpr ht)]
    rfl
  | succ d ih =>
    intro k n h1 hd hk
    obtain ⟨k, rfl⟩ : ∃ m, k = m + 1 := ⟨k - 1, by omega⟩
    have hu := sum_le n 16 (f := fun c => (upL p (c : Int)).length) (fun c hc => upL_length p _)
    have hb := sum_le n 16 (f := fun c => (belowL p (c : Int)).length) (fun c hc => belowL_length p _)
    have hl1 := upL_length p (n : Int)
    have hl2 := belowL_length p (n : Int)
    have hn : n * 16 ≤ 256 := by omega
    simp only [pacelinelaw05_TreeAll.l0, tree_Above.f, Option.bind_some]
    rw [if_pos (by omega), tbelow p _ k (by omega)]
    simp only [Option.bind_some]
    rw [wrap64_id (by omega) (by omega), wrap64_id (by omega) (by omega)]
    refine all_inner ht (by omega) (by omega) (d * 200 + 201) (fun k' hk' => ?_) (belowL p (n : Int)).length k 0 (by omega) (by omega) (by omega) (by omega)
    have := ih k' (n + 1) (by omega) (by omega) (by omega)
    simp only [sum] at this
    have e : ((n + 1 : Nat) : Int) = (n : Int) + 1 := by omega
    rw [e] at this
    rw [← this]
    congr 1 <;> omega
theorem TreeAll : pacelinelaw05_TreeAll.Pure := by
  intro l0 h0
  obtain ⟨p, ht, hp⟩ := made_tree l0 (fun x hx => wf_u8 (h0.2 x hx))
  have hlen := ht.2.1
  obtain ⟨K, hK⟩ : ∃ K : Nat, 4000 ≤ K := ⟨4000, Nat.le_refl _⟩
  refine ⟨K, ?_⟩
  unfold pacelinelaw05_TreeAll.f
  rw [hp K (by omega)]
  simp only [Option.bind_some]
  exact all_outer ht p.length K 0 (by omega) (by omega) (by omega)

end Go.Proofs.Ytecjpnfhanimiaa.Pure
