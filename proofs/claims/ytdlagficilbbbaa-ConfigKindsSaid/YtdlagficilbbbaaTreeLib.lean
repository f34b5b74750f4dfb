/- Plain facts on trees of classes: what is above a class, where two meet, what is below. -/
import Derived.Test.YtdlagficilbbbaaUp
namespace Go.Proofs.YtdlagficilbbbaaU
open Go Go.Proofs.YtdlagficilbbbaaW.PrintWords
set_option linter.unusedVariables false

theorem treeB_iff {ps : List Int} : treeB ps = true ↔ Tree ps := decide_eq_true_iff
theorem upL_neg {ps : List Int} {a : Int} (h : a < 0) : upL ps a = [] := by
  unfold upL
  split
  · exact chain_end h
  · rfl
theorem upL_out {ps : List Int} {a : Int} (h : (ps.length : Int) ≤ a) : upL ps a = [] := by
  unfold upL; rw [if_neg (by omega)]
theorem upL_odd {ps : List Int} {a : Int} (h : ¬ Tree ps) : upL ps a = [] := by
  unfold upL; rw [if_neg (fun h' => h (treeB_iff.mp h'.2))]
theorem upL_step {ps : List Int} (h : Tree ps) {a : Int} (h0 : 0 ≤ a) (h1 : a < (ps.length : Int)) : upL ps a = a :: upL ps (rd ps a) := by
  have hr := tree_rd h h0 h1
  have e : upL ps a = chain ps (a.toNat + 1) a := by unfold upL; rw [if_pos ⟨h1, treeB_iff.mpr h⟩]
  have e' : upL ps (rd ps a) = chain ps ((rd ps a).toNat + 1) (rd ps a) := by unfold upL; rw [if_pos ⟨by omega, treeB_iff.mpr h⟩]
  rw [e, e', chain_step h h0 h1]
/-- By induction along the parents. -/
theorem up_induct {ps : List Int} (h : Tree ps) {p : Int → Prop} (hneg : ∀ a, a < 0 → p a) (hstep : ∀ a, 0 ≤ a → a < (ps.length : Int) → p (rd ps a) → p a) : ∀ a, a < (ps.length : Int) → p a := by
  have H : ∀ (n : Nat) (a : Int), a < (n : Int) → a < (ps.length : Int) → p a := by
    intro n
    induction n with
    | zero => exact fun a ha _ => hneg a (by omega)
    | succ n ih =>
      intro a ha hl
      by_cases h0 : 0 ≤ a
      · have hr := tree_rd h h0 hl
        exact hstep a h0 hl (ih _ (by omega) (by omega))
      · exact hneg a (by omega)
  exact fun a ha => H (a.toNat + 1) a (by omega) ha
theorem up_le {ps : List Int} (h : Tree ps) {a b : Int} (hl : a < (ps.length : Int)) (hb : b ∈ upL ps a) : 0 ≤ b ∧ b ≤ a := by
  revert hb
  refine up_induct h (p := fun a => b ∈ upL ps a → 0 ≤ b ∧ b ≤ a) ?_ ?_ a hl
  · intro a ha hb; rw [upL_neg ha] at hb; cases hb
  · intro a h0 h1 ih hb
    have hr := tree_rd h h0 h1
    rw [upL_step h h0 h1] at hb
    rcases List.mem_cons.mp hb with rfl | hb
    · omega
    · have := ih hb; omega
theorem up_lt {ps : List Int} {a b : Int} (hb : b ∈ upL ps a) : Tree ps ∧ a < (ps.length : Int) ∧ 0 ≤ a := by
  by_cases ht : Tree ps
  · by_cases hl : a < (ps.length : Int)
    · by_cases h0 : 0 ≤ a
      · exact ⟨ht, hl, h0⟩
      · rw [upL_neg (by omega)] at hb; cases hb
    · rw [upL_out (by omega)] at hb; cases hb
  · rw [upL_odd ht] at hb; cases hb
theorem up_self {ps : List Int} (h : Tree ps) {a : Int} (h0 : 0 ≤ a) (h1 : a < (ps.length : Int)) : a ∈ upL ps a := by
  rw [upL_step h h0 h1]; exact List.mem_cons_self
theorem up_anti {ps : List Int} {a b : Int} (h1 : b ∈ upL ps a) (h2 : a ∈ upL ps b) : a = b := by
  obtain ⟨ht, hl, _⟩ := up_lt h1
  obtain ⟨_, hl', _⟩ := up_lt h2
  have := up_le ht hl h1; have := up_le ht hl' h2
  omega
/-- What is above b is the end of what is above a, if b is. -/
theorem up_suffix {ps : List Int} (h : Tree ps) {a b : Int} (hl : a < (ps.length : Int)) (hb : b ∈ upL ps a) : ∃ pre, upL ps a = pre ++ upL ps b := by
  revert hb
  refine up_induct h (p := fun a => b ∈ upL ps a → ∃ pre, upL ps a = pre ++ upL ps b) ?_ ?_ a hl
  · intro a ha hb; rw [upL_neg ha] at hb; cases hb
  · intro a h0 h1 ih hb
    by_cases e : b = a
    · subst e; exact ⟨[], rfl⟩
    · rw [upL_step h h0 h1] at hb ⊢
      rcases List.mem_cons.mp hb with hb | hb
      · exact absurd hb e
      · obtain ⟨pre, hp⟩ := ih hb
        exact ⟨a :: pre, by rw [hp]; rfl⟩
theorem up_trans {ps : List Int} {a b c : Int} (h1 : b ∈ upL ps a) (h2 : c ∈ upL ps b) : c ∈ upL ps a := by
  obtain ⟨ht, hl, _⟩ := up_lt h1
  obtain ⟨pre, hp⟩ := up_suffix ht hl h1
  rw [hp]; exact List.mem_append.mpr (.inr h2)

/-! ### where two meet -/
def meetV (ps : List Int) (a b : Int) : Int := ((upL ps a).find? fun x => decide (x ∈ upL ps b)).getD (-1)
theorem find?_congr' {α : Type} {l : List α} {p q : α → Bool} (h : ∀ x ∈ l, p x = q x) : l.find? p = l.find? q := by
  induction l with
  | nil => rfl
  | cons x l ih =>
    have hx := h x List.mem_cons_self
    simp only [List.find?_cons, hx, ih (fun y hy => h y (List.mem_cons_of_mem _ hy))]
theorem meet_eq {ps : List Int} (h : Tree ps) {a : Int} (h0 : 0 ≤ a) (h1 : a < (ps.length : Int)) : meetV ps a a = a := by
  unfold meetV
  rw [upL_step h h0 h1, List.find?_cons, ← upL_step h h0 h1, decide_eq_true (up_self h h0 h1)]
  rfl
theorem meet_left {ps : List Int} (h : Tree ps) {a b : Int} (h0 : 0 ≤ a) (h1 : a < (ps.length : Int)) (hb : b < a) : meetV ps a b = meetV ps (rd ps a) b := by
  unfold meetV
  have hn : a ∉ upL ps b := fun hm => by have := up_le h (by omega) hm; omega
  rw [upL_step h h0 h1, List.find?_cons, decide_eq_false hn]
theorem meet_right {ps : List Int} (h : Tree ps) {a b : Int} (h0 : 0 ≤ b) (h1 : b < (ps.length : Int)) (hb : a < b) : meetV ps a b = meetV ps a (rd ps b) := by
  unfold meetV
  congr 1
  refine find?_congr' fun x hx => ?_
  have hx' := up_le h (by omega) hx
  rw [upL_step h h0 h1]
  by_cases hm : x ∈ upL ps (rd ps b)
  · rw [decide_eq_true hm, decide_eq_true (List.mem_cons_of_mem _ hm)]
  · rw [decide_eq_false hm, decide_eq_false (fun h' => (List.mem_cons.mp h').elim (fun e => by omega) hm)]
theorem meet_none_left {ps : List Int} {a b : Int} (h : upL ps a = []) : meetV ps a b = -1 := by unfold meetV; rw [h]; rfl
theorem meet_none_right {ps : List Int} {a b : Int} (h : upL ps b = []) : meetV ps a b = -1 := by
  unfold meetV
  rw [List.find?_eq_none.mpr (fun x _ => by rw [h]; simp)]
  rfl
/-- The meeting, told: none, or the lowest common one. -/
theorem meet_spec {ps : List Int} (h : Tree ps) : ∀ (n : Nat) (a b : Int), a < (ps.length : Int) → b < (ps.length : Int) → (a + 1).toNat + (b + 1).toNat ≤ n →
    (meetV ps a b = -1 ∧ ∀ c, c ∈ upL ps a → c ∉ upL ps b) ∨ (0 ≤ meetV ps a b ∧ meetV ps a b ∈ upL ps a ∧ meetV ps a b ∈ upL ps b ∧ ∀ c, c ∈ upL ps a → c ∈ upL ps b → c ∈ upL ps (meetV ps a b)) := by
  intro n
  induction n with
  | zero =>
    intro a b ha hb hn
    have hn' := upL_neg (ps := ps) (a := a) (by omega)
    exact .inl ⟨meet_none_left hn', fun c hc => by rw [hn'] at hc; cases hc⟩
  | succ n ih =>
    intro a b ha hb hn
    by_cases h0 : 0 ≤ a
    · by_cases h0b : 0 ≤ b
      · rcases Int.lt_trichotomy a b with hlt | heq | hgt
        · have hr := tree_rd h h0b hb
          rw [meet_right h h0b hb hlt]
          have key : ∀ c, c ∈ upL ps a → (c ∈ upL ps b ↔ c ∈ upL ps (rd ps b)) := fun c hc => by
            have := up_le h ha hc
            rw [upL_step h h0b hb]
            exact ⟨fun h' => (List.mem_cons.mp h').elim (fun e => by omega) id, List.mem_cons_of_mem _⟩
          rcases ih a (rd ps b) ha (by omega) (by omega) with ⟨h1, h2⟩ | ⟨h1, h2, h3, h4⟩
          · exact .inl ⟨h1, fun c hc hc' => h2 c hc ((key c hc).mp hc')⟩
          · exact .inr ⟨h1, h2, (key _ h2).mpr h3, fun c hc hc' => h4 c hc ((key c hc).mp hc')⟩
        · subst heq
          rw [meet_eq h h0 ha]
          exact .inr ⟨h0, up_self h h0 ha, up_self h h0 ha, fun c hc _ => hc⟩
        · have hr := tree_rd h h0 ha
          rw [meet_left h h0 ha hgt]
          have key : ∀ c, c ∈ upL ps b → (c ∈ upL ps a ↔ c ∈ upL ps (rd ps a)) := fun c hc => by
            have := up_le h hb hc
            rw [upL_step h h0 ha]
            exact ⟨fun h' => (List.mem_cons.mp h').elim (fun e => by omega) id, List.mem_cons_of_mem _⟩
          rcases ih (rd ps a) b (by omega) hb (by omega) with ⟨h1, h2⟩ | ⟨h1, h2, h3, h4⟩
          · exact .inl ⟨h1, fun c hc hc' => h2 c ((key c hc').mp hc) hc'⟩
          · exact .inr ⟨h1, (key _ h3).mpr h2, h3, fun c hc hc' => h4 c ((key c hc').mp hc) hc'⟩
      · have hn' := upL_neg (ps := ps) (a := b) (by omega)
        exact .inl ⟨meet_none_right hn', fun c hc hc' => by rw [hn'] at hc'; cases hc'⟩
    · have hn' := upL_neg (ps := ps) (a := a) (by omega)
      exact .inl ⟨meet_none_left hn', fun c hc => by rw [hn'] at hc; cases hc⟩
theorem meet_told {ps : List Int} (h : Tree ps) {a b : Int} (ha : a < (ps.length : Int)) (hb : b < (ps.length : Int)) :
    (meetV ps a b = -1 ∧ ∀ c, c ∈ upL ps a → c ∉ upL ps b) ∨ (0 ≤ meetV ps a b ∧ meetV ps a b ∈ upL ps a ∧ meetV ps a b ∈ upL ps b ∧ ∀ c, c ∈ upL ps a → c ∈ upL ps b → c ∈ upL ps (meetV ps a b)) :=
  meet_spec h _ a b ha hb (Nat.le_refl _)
theorem meet_comm {ps : List Int} (h : Tree ps) {a b : Int} (ha : a < (ps.length : Int)) (hb : b < (ps.length : Int)) : meetV ps a b = meetV ps b a := by
  rcases meet_told h ha hb with ⟨h1, h2⟩ | ⟨h1, h2, h3, h4⟩ <;> rcases meet_told h hb ha with ⟨g1, g2⟩ | ⟨g1, g2, g3, g4⟩
  · rw [h1, g1]
  · exact absurd g2 (h2 _ g3)
  · exact absurd h2 (g2 _ h3)
  · exact (up_anti (g4 _ h3 h2) (h4 _ g3 g2)).symm

/-! ### below -/
def belowL (ps : List Int) (a : Int) : List Int := ((List.range (min ps.length 16)).map Int.ofNat).filter fun i => decide (a ∈ upL ps i)
theorem belowL_odd {ps : List Int} {a : Int} (h : ¬ Tree ps) : belowL ps a = [] := by
  unfold belowL
  rw [List.filter_eq_nil_iff]
  intro x _
  rw [upL_odd h]; simp
theorem belowL_length (ps : List Int) (a : Int) : (belowL ps a).length ≤ 16 := by
  unfold belowL
  refine Nat.le_trans (List.length_filter_le _ _) ?_
  simp; omega
theorem mem_belowL {ps : List Int} {a i : Int} : i ∈ belowL ps a ↔ a ∈ upL ps i := by
  unfold belowL
  rw [List.mem_filter]
  constructor
  · exact fun h => of_decide_eq_true h.2
  · intro h
    obtain ⟨ht, hl, h0⟩ := up_lt h
    refine ⟨List.mem_map.mpr ⟨i.toNat, List.mem_range.mpr ?_, ?_⟩, decide_eq_true h⟩
    · have := ht.2.1; omega
    · show ((i.toNat : Nat) : Int) = i; omega

/-! ### the list above, place by place -/
/-- The root of a list: its last one. -/
theorem up_shape {ps : List Int} (h : Tree ps) : ∀ a, a < (ps.length : Int) → 0 ≤ a →
    rd (upL ps a) 0 = a ∧ (∀ i : Int, 1 ≤ i → i < ((upL ps a).length : Int) → rd ps (rd (upL ps a) (i - 1)) = rd (upL ps a) i ∧ rd (upL ps a) i < rd (upL ps a) (i - 1)) ∧
    rd ps (rd (upL ps a) (((upL ps a).length : Int) - 1)) = -1 := by
  refine up_induct h (p := fun a => 0 ≤ a → rd (upL ps a) 0 = a ∧ (∀ i : Int, 1 ≤ i → i < ((upL ps a).length : Int) → rd ps (rd (upL ps a) (i - 1)) = rd (upL ps a) i ∧ rd (upL ps a) i < rd (upL ps a) (i - 1)) ∧
    rd ps (rd (upL ps a) (((upL ps a).length : Int) - 1)) = -1) (fun a h1 h2 => by omega) ?_
  intro a h0 h1 ih _
  have hr := tree_rd h h0 h1
  have cons_rd : ∀ (x : Int) (l : List Int) (i : Int), 1 ≤ i → rd (x :: l) i = rd l (i - 1) := fun x l i hi => by
    unfold rd
    rw [show i.toNat = (i - 1).toNat + 1 by omega]
    rfl
  have head_rd : ∀ (x : Int) (l : List Int), rd (x :: l) 0 = x := fun x l => rfl
  rw [upL_step h h0 h1]
  by_cases hp : 0 ≤ rd ps a
  · obtain ⟨i1, i2, i3⟩ := ih hp
    have hne : upL ps (rd ps a) ≠ [] := by rw [upL_step h hp (by omega)]; simp
    have hlen : 1 ≤ (upL ps (rd ps a)).length := by
      rcases hl : upL ps (rd ps a) with _ | ⟨x, l⟩
      · exact absurd hl hne
      · simp
    generalize upL ps (rd ps a) = L at *
    refine ⟨head_rd _ _, fun i hi hl => ?_, ?_⟩
    · rw [cons_rd _ _ i hi]
      by_cases e : i = 1
      · subst e
        rw [show (1 : Int) - 1 = 0 by omega, head_rd, i1]
        exact ⟨rfl, hr.2⟩
      · rw [cons_rd _ _ (i - 1) (by omega)]
        have := i2 (i - 1) (by omega) (by simp at hl; omega)
        exact this
    · rw [cons_rd _ _ _ (by simp; omega), show (((a :: L).length : Nat) : Int) - 1 - 1 = (L.length : Int) - 1 by simp]
      exact i3
  · have hnil : upL ps (rd ps a) = [] := upL_neg (by omega)
    rw [hnil]
    refine ⟨rfl, fun i hi hl => ?_, ?_⟩
    · simp at hl; omega
    · show rd ps (rd [a] (((1 : Nat) : Int) - 1)) = -1
      rw [show (((1 : Nat) : Int) - 1) = 0 by omega, head_rd]
      omega
theorem up_ne {ps : List Int} (h : Tree ps) {a : Int} (h0 : 0 ≤ a) (h1 : a < (ps.length : Int)) : 1 ≤ (upL ps a).length := by rw [upL_step h h0 h1]; simp
theorem rd_mem' {l : List Int} {i : Int} (h0 : 0 ≤ i) (h1 : i < (l.length : Int)) : rd l i ∈ l := by
  unfold rd
  rw [List.getD_eq_getElem?_getD, List.getElem?_eq_getElem (show i.toNat < l.length by omega)]
  exact List.getElem_mem _
theorem rd_last {l : List Int} (h : l ≠ []) : rd l ((l.length : Int) - 1) = l.getLast h := by
  unfold rd
  have : 1 ≤ l.length := by
    rcases l with _ | ⟨x, l⟩
    · exact absurd rfl h
    · simp
  rw [List.getLast_eq_getElem, List.getD_eq_getElem?_getD, show ((l.length : Int) - 1).toNat = l.length - 1 by omega, List.getElem?_eq_getElem (show l.length - 1 < l.length by omega)]
  rfl
/-- Two have one root just where they meet. -/
theorem roots_iff {ps : List Int} (h : Tree ps) {a b : Int} (ha0 : 0 ≤ a) (ha : a < (ps.length : Int)) (hb0 : 0 ≤ b) (hb : b < (ps.length : Int)) :
    rd (upL ps a) (((upL ps a).length : Int) - 1) = rd (upL ps b) (((upL ps b).length : Int) - 1) ↔ 0 ≤ meetV ps a b := by
  have na := up_ne h ha0 ha
  have nb := up_ne h hb0 hb
  have last_of : ∀ x m : Int, 0 ≤ x → x < (ps.length : Int) → m ∈ upL ps x → rd (upL ps x) (((upL ps x).length : Int) - 1) = rd (upL ps m) (((upL ps m).length : Int) - 1) := fun x m hx0 hx hm => by
    obtain ⟨pre, hp⟩ := up_suffix h hx hm
    have hm' := up_le h hx hm
    have nm := up_ne h hm'.1 (show m < _ by omega)
    have e1 : upL ps m ≠ [] := fun e => by rw [e] at nm; simp at nm
    have e2 : upL ps x ≠ [] := fun e => by rw [e] at hm; cases hm
    rw [rd_last e1, rd_last e2]
    have : ∀ (l l' : List Int) (hl : l ≠ []) (e : l = pre ++ l') (hl' : l' ≠ []), l.getLast hl = l'.getLast hl' := fun l l' hl e hl' => by
      subst e
      rw [List.getLast_append_of_ne_nil _ hl']
    exact this _ _ e2 hp e1
  constructor
  · intro he
    rcases meet_told h ha hb with ⟨h1, h2⟩ | ⟨h1, _⟩
    · have m1 := rd_mem' (l := upL ps a) (i := ((upL ps a).length : Int) - 1) (by omega) (by omega)
      have m2 := rd_mem' (l := upL ps b) (i := ((upL ps b).length : Int) - 1) (by omega) (by omega)
      rw [← he] at m2
      exact absurd m2 (h2 _ m1)
    · exact h1
  · intro hm
    rcases meet_told h ha hb with ⟨h1, h2⟩ | ⟨h1, h2, h3, _⟩
    · omega
    · rw [last_of a _ ha0 ha h2, last_of b _ hb0 hb h3]
end Go.Proofs.YtdlagficilbbbaaU
