/- 'pacelinelaw08.ConfigKinds': of whatever federation and kinds: the law answers true. Conditions: none beyond the form's own reach. -/
import Derived.Test.YtdlagficilbbbaaPConfigKindsx
import Derived.Test.YtdlagficilbbbaaTreeLib
set_option linter.unusedVariables false
set_option linter.unusedSimpArgs false
namespace Go.Proofs.Ytdlagficilbbbaa.Pure
open Go.RowKit Go.Proofs.Ytdlagficilbbbaa.PConfigKinds Go.Proofs.YtdlagficilbbbaaR Go.Proofs.YtdlagficilbbbaaW.PrintWords Go.Proofs.YtdlagficilbbbaaW.PrintLast Go.Proofs.YtdlagficilbbbaaU Go.Proofs.YtdlagficilbbbaaI

theorem some_of_le {α : Type} {f : Nat → Option α} {v : α} {n : Nat} (h : ∀ k, n ≤ k → f k = some v) {k : Nat} (hk : n ≤ k) : f k = some v := h k hk
/-- From place i on all is as a tree's. -/
def okFrom (ps : List Int) (i : Int) : Prop := ∀ j : Nat, i ≤ (j : Int) → j < ps.length → -1 ≤ ps.getD j 0 ∧ ps.getD j 0 < (j : Int)
theorem rck_loop (ps : List Int) (h16 : ps.length ≤ 16) (d : Nat) : ∀ (k : Nat) (i : Int), 0 ≤ i → i ≤ (ps.length : Int) → (ps.length : Int) - i = d → d < k →
    ∃ r, pacelineref05_Check.l0 k ps i = some r ∧ (okFrom ps i → r = 0) ∧ (¬ okFrom ps i → r = 50) := by
  induction d with
  | zero =>
    intro k i h0 h1 hd hk
    obtain ⟨k, rfl⟩ : ∃ m, k = m + 1 := ⟨k - 1, by omega⟩
    exact ⟨0, by simp only [pacelineref05_Check.l0]; rw [if_neg (by omega)], fun _ => rfl, fun h => absurd (fun j hj hl => by omega) h⟩
  | succ d ih =>
    intro k i h0 h1 hd hk
    obtain ⟨k, rfl⟩ : ∃ m, k = m + 1 := ⟨k - 1, by omega⟩
    have hlt : i < (ps.length : Int) := by omega
    have hat : ∀ j : Nat, (j : Int) = i → ps.getD j 0 = rd ps i := fun j hj => by
      subst hj
      rfl
    simp only [pacelineref05_Check.l0]
    rw [if_pos hlt, if_pos h0]
    by_cases h2 : rd ps i < -1
    · exact ⟨50, by rw [if_pos h2], fun h => by have := h i.toNat (by omega) (by omega); rw [hat i.toNat (by omega)] at this; omega, fun _ => rfl⟩
    · rw [if_neg h2]
      by_cases h3 : rd ps i ≥ i
      · exact ⟨50, by rw [if_pos h3], fun h => by have := h i.toNat (by omega) (by omega); rw [hat i.toNat (by omega)] at this; omega, fun _ => rfl⟩
      · rw [if_neg h3, wrap64_id (by omega) (by omega)]
        obtain ⟨r, hr, ha, hb⟩ := ih k (i + 1) (by omega) (by omega) (by omega) (by omega)
        refine ⟨r, hr, fun h => ha (fun j hj hl => h j (by omega) hl), fun h => hb (fun h' => h (fun j hj hl => ?_))⟩
        by_cases e : (j : Int) = i
        · rw [hat j e]; omega
        · exact h' j (by omega) hl
theorem rck (ps : List Int) (k : Nat) (hk : 18 ≤ k) : pacelineref05_Check.f k ps = some (if treeB ps = true then 0 else 50) := by
  have hT := treeB_iff (ps := ps)
  obtain ⟨k, rfl⟩ : ∃ m, k = m + 1 := ⟨k - 1, by omega⟩
  unfold pacelineref05_Check.f
  by_cases h1 : (ps.length : Int) < 1
  · rw [if_pos h1, if_neg (fun h => by have := (hT.mp h).1; omega)]
    simp only [pacelineref05_Check.j0, if_true]
  · rw [if_neg h1]
    by_cases h2 : (ps.length : Int) > 16
    · rw [if_neg (fun h => by have := (hT.mp h).2.1; omega)]
      simp only [pacelineref05_Check.j0, decide_eq_true_eq]
      rw [if_pos h2]
    · simp only [pacelineref05_Check.j0, decide_eq_true_eq]
      rw [if_neg h2]
      obtain ⟨r, hr, ha, hb⟩ := rck_loop ps (by omega) ps.length k 0 (by omega) (by omega) (by omega) (by omega)
      rw [hr]
      by_cases ht : treeB ps = true
      · rw [if_pos ht, ha (fun j _ hl => (hT.mp ht).2.2 j hl)]
      · rw [if_neg ht, hb (fun h => ht (hT.mpr ⟨by omega, by omega, fun j hj => h j (by omega) hj⟩))]

theorem has_loop (xs : List Int) (b : Int) (hx : xs.length ≤ 100000) (d : Nat) : ∀ (k : Nat) (i : Int), 0 ≤ i → i ≤ (xs.length : Int) → (xs.length : Int) - i = d → d < k →
    pacelineref05_Has.l0 k xs b i = some (decide (b ∈ xs.drop i.toNat)) := by
  induction d with
  | zero =>
    intro k i h0 h1 hd hk
    obtain ⟨k, rfl⟩ : ∃ m, k = m + 1 := ⟨k - 1, by omega⟩
    simp only [pacelineref05_Has.l0]
    rw [if_neg (by omega), List.drop_eq_nil_of_le (by omega)]
    simp
  | succ d ih =>
    intro k i h0 h1 hd hk
    obtain ⟨k, rfl⟩ : ∃ m, k = m + 1 := ⟨k - 1, by omega⟩
    have hlt : i.toNat < xs.length := by omega
    have e : xs.drop i.toNat = rd xs i :: xs.drop (i.toNat + 1) := by
      rw [List.drop_eq_getElem_cons hlt]
      unfold rd
      rw [List.getD_eq_getElem?_getD, List.getElem?_eq_getElem hlt]
      rfl
    simp only [pacelineref05_Has.l0]
    rw [if_pos (by omega), if_pos h0, e]
    by_cases hb : rd xs i = b
    · rw [if_pos hb, decide_eq_true (by rw [hb]; exact List.mem_cons_self)]
    · rw [if_neg hb, wrap64_id (by omega) (by omega), ih k (i + 1) (by omega) (by omega) (by omega) (by omega), show (i + 1).toNat = i.toNat + 1 by omega]
      congr 1
      simp [List.mem_cons, Ne.symm hb]
theorem rhas (xs : List Int) (b : Int) (hx : xs.length ≤ 100000) (k : Nat) (hk : xs.length < k) : pacelineref05_Has.f k xs b = some (decide (b ∈ xs)) := by
  unfold pacelineref05_Has.f
  rw [has_loop xs b hx xs.length k 0 (by omega) (by omega) (by omega) hk]
  rfl

abbrev Rl := S44
abbrev Ou := S55
def findV (l : List Rl) (s c : Int) : Int := idx (fun r => r.f0 == s && r.f1 == c) l
theorem rdR_mem {l : List Rl} {i : Int} (h0 : 0 ≤ i) (h1 : i < (l.length : Int)) : rd_T44 l i ∈ l := by
  unfold rd_T44
  rw [List.getD_eq_getElem?_getD, List.getElem?_eq_getElem (show i.toNat < l.length by omega)]
  exact List.getElem_mem _
theorem dropR {l : List Rl} {i : Int} (h0 : 0 ≤ i) (h1 : i < (l.length : Int)) : l.drop i.toNat = rd_T44 l i :: l.drop (i.toNat + 1) := by
  have hlt : i.toNat < l.length := by omega
  rw [List.drop_eq_getElem_cons hlt]
  unfold rd_T44
  rw [List.getD_eq_getElem?_getD, List.getElem?_eq_getElem hlt]
  rfl
theorem findV_range (l : List Rl) (s c : Int) : -1 ≤ findV l s c ∧ findV l s c < (l.length : Int) := idx_range _ _
theorem rfind_loop (l : List Rl) (hl : l.length ≤ 60) (s c : Int) (d : Nat) : ∀ (k : Nat) (i : Int), 0 ≤ i → i ≤ (l.length : Int) → (l.length : Int) - i = d → d < k → (∀ x ∈ l.take i.toNat, (x.f0 == s && x.f1 == c) = false) →
    pacelineref07_Find.l0 k l s c i = some (findV l s c) := by
  induction d with
  | zero =>
    intro k i h0 h1 hd hk hno
    obtain ⟨k, rfl⟩ : ∃ m, k = m + 1 := ⟨k - 1, by omega⟩
    simp only [pacelineref07_Find.l0]
    rw [if_neg (by omega)]
    unfold findV
    rw [idx_none _ l (fun x hx => hno x (by rw [List.take_of_length_le (by omega)]; exact hx))]
  | succ d ih =>
    intro k i h0 h1 hd hk hno
    obtain ⟨k, rfl⟩ : ∃ m, k = m + 1 := ⟨k - 1, by omega⟩
    have hx : l[i.toNat]? = some (rd_T44 l i) := by
      unfold rd_T44
      rw [List.getD_eq_getElem?_getD, List.getElem?_eq_getElem (show i.toNat < l.length by omega)]
      rfl
    have hnext : (((rd_T44 l i).f0 == s && (rd_T44 l i).f1 == c) = false) → pacelineref07_Find.l0 k l s c (wrap64 (i + 1)) = some (findV l s c) := fun hq => by
      rw [wrap64_id (by omega) (by omega)]
      refine ih k (i + 1) (by omega) (by omega) (by omega) (by omega) ?_
      rw [show (i + 1).toNat = i.toNat + 1 by omega]
      exact take_all hno hx hq
    simp only [pacelineref07_Find.l0]
    rw [if_pos (by omega), if_pos h0]
    by_cases hs : (rd_T44 l i).f0 = s
    · rw [if_pos hs]
      by_cases hc : (rd_T44 l i).f1 = c
      · rw [if_pos hc]
        unfold findV
        rw [hit_at (k := i.toNat) hno hx (by simp [hs, hc])]
        congr 1
        omega
      · rw [if_neg hc]
        exact hnext (by simp [hc])
    · rw [if_neg hs]
      exact hnext (by simp [hs])
theorem rfind (l : List Rl) (hl : l.length ≤ 60) (s c : Int) (k : Nat) (hk : 61 ≤ k) : pacelineref07_Find.f k l s c = some (findV l s c) := by
  unfold pacelineref07_Find.f
  exact rfind_loop l hl s c l.length k 0 (by omega) (by omega) (by omega) (by omega) (fun x hx => by simp at hx)


def fineV (r : Rl) : Bool := table_Check.bel r.f0 8 && table_Check.bel r.f2 8 && table_Check.bel r.f1 16 && decide (r.f3.length ≤ 3) && !(r.f3.any table_Check.odd)
def checkV (l : List Rl) : Int := if 32 < l.length then 70 else table_Check.scan [] l
theorem bad_iff (l : List Rl) (r : Rl) : table_Check.bad l r = (table_Check.met l r.f0 r.f1 || !(fineV r)) := by
  unfold table_Check.bad fineV
  have : decide (3 < r.f3.length) = !(decide (r.f3.length ≤ 3)) := by
    rw [Bool.eq_iff_iff]; simp
  rw [this]
  cases table_Check.met l r.f0 r.f1 <;> cases table_Check.bel r.f0 8 <;> cases table_Check.bel r.f2 8 <;> cases table_Check.bel r.f1 16 <;> cases decide (r.f3.length ≤ 3) <;> cases r.f3.any table_Check.odd <;> rfl
theorem tcheck {l : List Rl} (h : OkAll ok44 l) : table_Check.f l = some (checkV l) := by
  unfold table_Check.f checkV
  rw [if_pos]
  refine List.all_eq_true.mpr fun r hr => ?_
  obtain ⟨w0, w1, w2, w3⟩ := h.2 r hr
  unfold table_Check.wfr
  rw [w0, w1, w2]
  simp only [Bool.and_true, Bool.true_and]
  refine List.all_eq_true.mpr fun o ho => ?_
  obtain ⟨v0, v1, v2⟩ := w3.2 o ho
  unfold table_Check.wfo
  rw [v0, v1, v2]
  rfl
theorem rin (a b : Int) : pacelineref07_in.f a b = some (table_Check.bel a b) := by
  unfold pacelineref07_in.f table_Check.bel
  by_cases h : 0 ≤ a
  · rw [if_pos h]
    simp [h]
  · rw [if_neg (by omega)]
    simp [h]
theorem dropO {l : List Ou} {i : Int} (h0 : 0 ≤ i) (h1 : i < (l.length : Int)) : l.drop i.toNat = rd_T55 l i :: l.drop (i.toNat + 1) := by
  have hlt : i.toNat < l.length := by omega
  rw [List.drop_eq_getElem_cons hlt]
  unfold rd_T55
  rw [List.getD_eq_getElem?_getD, List.getElem?_eq_getElem hlt]
  rfl
theorem fine_loop (l : List Ou) (hl : l.length ≤ 3) (a b c : Int) (d : Nat) : ∀ (k : Nat) (i : Int), 0 ≤ i → i ≤ (l.length : Int) → (l.length : Int) - i = d → d < k →
    pacelineref07_fine.l0 k i a b c l = some (!((l.drop i.toNat).any table_Check.odd)) := by
  induction d with
  | zero =>
    intro k i h0 h1 hd hk
    obtain ⟨k, rfl⟩ : ∃ m, k = m + 1 := ⟨k - 1, by omega⟩
    simp only [pacelineref07_fine.l0]
    rw [if_neg (by omega), List.drop_eq_nil_of_le (by omega)]
    rfl
  | succ d ih =>
    intro k i h0 h1 hd hk
    obtain ⟨k, rfl⟩ : ∃ m, k = m + 1 := ⟨k - 1, by omega⟩
    simp only [pacelineref07_fine.l0]
    rw [if_pos (by omega), if_pos h0, rin, rin, rin, dropO h0 (by omega), List.any_cons]
    simp only [Option.bind_some]
    have e : table_Check.odd (rd_T55 l i) = (!(table_Check.bel (rd_T55 l i).f0 16) || !(table_Check.bel (rd_T55 l i).f1 1048577) || !(table_Check.bel (rd_T55 l i).f2 1000)) := rfl
    rw [e]
    cases table_Check.bel (rd_T55 l i).f0 16 with
    | false => simp
    | true =>
      cases table_Check.bel (rd_T55 l i).f1 1048577 with
      | false => simp
      | true =>
        cases table_Check.bel (rd_T55 l i).f2 1000 with
        | false => simp
        | true =>
          rw [wrap64_id (by omega) (by omega)]
          simp only [if_true]
          rw [ih k (i + 1) (by omega) (by omega) (by omega) (by omega), show (i + 1).toNat = i.toNat + 1 by omega]
          simp
theorem rfine (r : Rl) (k : Nat) (hk : 8 ≤ k) : pacelineref07_fine.f k r.f0 r.f1 r.f2 r.f3 = some (fineV r) := by
  obtain ⟨k, rfl⟩ : ∃ m, k = m + 1 := ⟨k - 1, by omega⟩
  unfold pacelineref07_fine.f fineV
  rw [rin, rin, rin]
  simp only [Option.bind_some, pacelineref07_fine.j0]
  cases table_Check.bel r.f0 8 with
  | false => simp
  | true =>
    cases table_Check.bel r.f2 8 with
    | false => simp
    | true =>
      cases table_Check.bel r.f1 16 with
      | false => simp
      | true =>
        simp only [if_true]
        by_cases h : (r.f3.length : Int) > 3
        · rw [if_pos (decide_eq_true h)]
          have : decide (r.f3.length ≤ 3) = false := decide_eq_false (by omega)
          rw [this]
          simp
        · rw [if_neg (by simpa using h), fine_loop r.f3 (by omega) _ _ _ r.f3.length k 0 (by omega) (by omega) (by omega) (by omega)]
          have : decide (r.f3.length ≤ 3) = true := decide_eq_true (by omega)
          rw [this]
          simp
theorem idx_left {α : Type} (q : α → Bool) (l l' : List α) (h : 0 ≤ idx q l) : idx q (l ++ l') = idx q l := by
  induction l with
  | nil => simp [idx] at h
  | cons x l ih =>
    simp only [List.cons_append, idx] at h ⊢
    by_cases hq : q x = true
    · rw [if_pos hq, if_pos hq]
    · rw [if_neg hq] at h ⊢
      rw [if_neg hq]
      by_cases hi : idx q l < 0
      · rw [if_pos hi] at h
        omega
      · rw [ih (by omega)]
theorem find_met {l : List Rl} {k : Nat} {x : Rl} (hx : l[k]? = some x) : table_Check.met (l.take k) x.f0 x.f1 = !(decide (findV l x.f0 x.f1 = (k : Int))) := by
  obtain ⟨hk, hxe⟩ := List.getElem?_eq_some_iff.1 hx
  unfold table_Check.met findV
  cases hm : (l.take k).any (fun r => r.f0 == x.f0 && r.f1 == x.f1) with
  | false =>
    rw [hit_at (k := k) (fun y hy => by simpa using (List.any_eq_false.mp hm) y hy) hx (by simp)]
    simp
  | true =>
    have h0 : 0 ≤ idx (fun r : Rl => r.f0 == x.f0 && r.f1 == x.f1) (l.take k) := (idx_iff _ _).mpr hm
    have h1 := idx_left _ (l.take k) (l.drop k) h0
    rw [List.take_append_drop] at h1
    have h2 := (idx_range (fun r : Rl => r.f0 == x.f0 && r.f1 == x.f1) (l.take k)).2
    rw [List.length_take] at h2
    have : decide (idx (fun r : Rl => r.f0 == x.f0 && r.f1 == x.f1) l = (k : Int)) = false := decide_eq_false (by omega)
    rw [this]
    rfl
theorem rcheck_loop (l : List Rl) (hl : l.length ≤ 32) (d : Nat) : ∀ (k : Nat) (i : Int), 0 ≤ i → i ≤ (l.length : Int) → (l.length : Int) - i = d → d + 70 < k → table_Check.scan [] l = table_Check.scan (l.take i.toNat) (l.drop i.toNat) →
    pacelineref07_Check.l0 k l i = some (table_Check.scan [] l) := by
  induction d with
  | zero =>
    intro k i h0 h1 hd hk he
    obtain ⟨k, rfl⟩ : ∃ m, k = m + 1 := ⟨k - 1, by omega⟩
    simp only [pacelineref07_Check.l0]
    rw [if_neg (by omega), he, List.drop_eq_nil_of_le (by omega)]
    rfl
  | succ d ih =>
    intro k i h0 h1 hd hk he
    obtain ⟨k, rfl⟩ : ∃ m, k = m + 1 := ⟨k - 1, by omega⟩
    have hx : l[i.toNat]? = some (rd_T44 l i) := by
      unfold rd_T44
      rw [List.getD_eq_getElem?_getD, List.getElem?_eq_getElem (show i.toNat < l.length by omega)]
      rfl
    have hm := find_met hx
    have hb := bad_iff (l.take i.toNat) (rd_T44 l i)
    rw [hm] at hb
    simp only [pacelineref07_Check.l0]
    rw [if_pos (by omega), if_pos h0, rfine _ k (by omega)]
    simp only [Option.bind_some]
    cases hf : fineV (rd_T44 l i) with
    | false =>
      rw [hf] at hb
      rw [if_neg (by simp), table_Check.stop he hx (by rw [hb]; simp)]
    | true =>
      rw [if_pos rfl, rfind l (by omega) _ _ k (by omega)]
      simp only [Option.bind_some]
      by_cases hi : findV l (rd_T44 l i).f0 (rd_T44 l i).f1 = i
      · rw [if_pos hi, wrap64_id (by omega) (by omega)]
        refine ih k (i + 1) (by omega) (by omega) (by omega) (by omega) ?_
        rw [show (i + 1).toNat = i.toNat + 1 by omega]
        refine table_Check.more he hx ?_
        rw [hb, hf, decide_eq_true (by omega)]
        rfl
      · rw [if_neg hi, table_Check.stop he hx (by rw [hb, hf, decide_eq_false (by omega)]; rfl)]
theorem rcheck (l : List Rl) (k : Nat) (hk : 110 ≤ k) : pacelineref07_Check.f k l = some (checkV l) := by
  unfold pacelineref07_Check.f checkV
  by_cases h : 32 < l.length
  · rw [if_pos (by omega), if_pos h]
  · rw [if_neg (by omega), if_neg h]
    exact rcheck_loop l (by omega) l.length k 0 (by omega) (by omega) (by omega) (by omega) rfl
theorem scan_zero : ∀ (t l : List Rl), table_Check.scan l t = 0 → ∀ x ∈ t, fineV x = true
  | [], _, _ => fun x hx => by cases hx
  | r :: t, l, h => by
    rw [table_Check.scan] at h
    cases hb : table_Check.bad l r with
    | true => rw [hb] at h; simp at h
    | false =>
      rw [hb] at h
      simp only [Bool.false_eq_true, if_false] at h
      have hf : fineV r = true := by
        rw [bad_iff] at hb
        simp only [Bool.or_eq_false_iff, Bool.not_eq_false'] at hb
        exact hb.2
      intro x hx
      rcases List.mem_cons.mp hx with rfl | hx
      · exact hf
      · exact scan_zero t _ h x hx
theorem check_zero {l : List Rl} (h : checkV l = 0) : ∀ x ∈ l, fineV x = true := by
  unfold checkV at h
  split at h
  · cases h
  · exact scan_zero l [] h
theorem fine_facts {x : Rl} (h : fineV x = true) : 0 ≤ x.f0 ∧ x.f0 < 8 ∧ 0 ≤ x.f2 ∧ x.f2 < 8 ∧ 0 ≤ x.f1 ∧ x.f1 < 16 ∧ x.f3.length ≤ 3 := by
  unfold fineV table_Check.bel at h
  simp only [Bool.and_eq_true, decide_eq_true_eq] at h
  omega

/-! ### config: what the reference's check comes to -/
abbrev Fd := S42
def FLight (x : Fd) : Prop := x.f3.length ≤ 60 ∧ x.f4.length ≤ 50 ∧ x.f5.length ≤ 50 ∧ x.f6.length ≤ 20 ∧ ∀ r ∈ x.f3, r.f3.length ≤ 20
theorem rdF {l : List Fd} {p : Nat} (hp : p < l.length) : rd_T42 l (p : Int) = l[p] := by
  show l.getD p _ = l[p]
  rw [List.getD_eq_getElem?_getD, List.getElem?_eq_getElem hp]
  rfl
theorem rdR' {l : List Rl} {p : Nat} (hp : p < l.length) : rd_T44 l (p : Int) = l[p] := by
  show l.getD p _ = l[p]
  rw [List.getD_eq_getElem?_getD, List.getElem?_eq_getElem hp]
  rfl
theorem rdO' {l : List Ou} {p : Nat} (hp : p < l.length) : rd_T55 l (p : Int) = l[p] := by
  show l.getD p _ = l[p]
  rw [List.getD_eq_getElem?_getD, List.getElem?_eq_getElem hp]
  rfl
theorem rdI {l : List Int} {p : Nat} (hp : p < l.length) : rd l (p : Int) = l[p] := by
  show l.getD p _ = l[p]
  rw [List.getD_eq_getElem?_getD, List.getElem?_eq_getElem hp]
  rfl
theorem succ_cast (p : Nat) : (p : Int) + 1 = ((p + 1 : Nat) : Int) := by omega
/-! heavy -/
theorem heavy_l1 (l1 : List Fd) (l0 : List Int) (a0 : Int) (x : Fd) (hx : x.f3.length ≤ 60) (g : Nat) (d : Nat) : ∀ (k p : Nat), p ≤ x.f3.length → x.f3.length - p = d →
    ((∃ r ∈ x.f3.drop p, 20 < r.f3.length) ∧ pacelinelaw08_heavy.l1 (k + d + 1) (g : Int) (p : Int) l0 l1 a0 x.f0 x.f1 x.f2 x.f3 x.f4 x.f5 x.f6 = some true) ∨
    ((∀ r ∈ x.f3.drop p, r.f3.length ≤ 20) ∧ pacelinelaw08_heavy.l1 (k + d + 1) (g : Int) (p : Int) l0 l1 a0 x.f0 x.f1 x.f2 x.f3 x.f4 x.f5 x.f6 = pacelinelaw08_heavy.l0 k (wrap64 ((g : Int) + 1)) l0 l1 a0) := by
  induction d with
  | zero =>
    intro k p h0 hd
    refine .inr ⟨fun r hr => (by rw [List.drop_eq_nil_of_le (by omega)] at hr; exact absurd hr (by simp)), ?_⟩
    rw [Nat.add_zero, pacelinelaw08_heavy.l1, if_neg (by omega)]
  | succ d ih =>
    intro k p h0 hd
    have hp : p < x.f3.length := by omega
    obtain ⟨K, hK⟩ : ∃ K, K = k + d + 1 := ⟨_, rfl⟩
    have hI := ih k (p + 1) (by omega) (by omega)
    rw [← hK] at hI
    rw [show k + (d + 1) + 1 = K + 1 by omega, pacelinelaw08_heavy.l1, if_pos (by omega), if_pos (by omega), rdR' hp, List.drop_eq_getElem_cons hp, wrap64_id (x := (p : Int) + 1) (by omega) (by omega), succ_cast]
    by_cases h : ((x.f3[p].f3.length : Int)) > 20
    · rw [if_pos h]
      exact .inl ⟨⟨_, List.mem_cons_self, by omega⟩, rfl⟩
    · rw [if_neg h]
      rcases hI with ⟨⟨r, hr, hl⟩, e⟩ | ⟨hr, e⟩
      · exact .inl ⟨⟨r, List.mem_cons_of_mem _ hr, hl⟩, e⟩
      · refine .inr ⟨fun r hr' => ?_, e⟩
        rcases List.mem_cons.mp hr' with rfl | hr'
        · omega
        · exact hr r hr'
theorem heavy_l0 (l1 : List Fd) (l0 : List Int) (a0 : Int) (hl : l1.length ≤ 20) (d : Nat) : ∀ (k p : Nat), p ≤ l1.length → l1.length - p = d → 100 * d + 10 ≤ k →
    ∃ b, pacelinelaw08_heavy.l0 k (p : Int) l0 l1 a0 = some b ∧ (b = false → ∀ x ∈ l1.drop p, FLight x) := by
  induction d with
  | zero =>
    intro k p h0 hd hk
    obtain ⟨k, rfl⟩ : ∃ m, k = m + 1 := ⟨k - 1, by omega⟩
    exact ⟨false, by rw [pacelinelaw08_heavy.l0, if_neg (by omega)], fun _ x hx => by rw [List.drop_eq_nil_of_le (by omega)] at hx; cases hx⟩
  | succ d ih =>
    intro k p h0 hd hk
    have hp : p < l1.length := by omega
    obtain ⟨k, rfl⟩ : ∃ m, k = m + 2 := ⟨k - 2, by omega⟩
    rw [pacelinelaw08_heavy.l0, if_pos (by omega), if_pos (by omega), rdF hp, List.drop_eq_getElem_cons hp]
    generalize l1[p] = x
    have hj : ∀ b, b = true → pacelinelaw08_heavy.j2 (k + 1) (p : Int) b l0 l1 a0 x.f0 x.f1 x.f2 x.f3 x.f4 x.f5 x.f6 = some true := fun b hb => by rw [pacelinelaw08_heavy.j2, if_pos hb]
    by_cases h3 : ((x.f3.length : Int)) > 60
    · rw [if_pos h3]
      exact ⟨true, hj _ rfl, fun h => by cases h⟩
    · rw [if_neg h3]
      by_cases h4 : ((x.f4.length : Int)) > 50
      · rw [if_pos h4]
        exact ⟨true, hj _ rfl, fun h => by cases h⟩
      · rw [if_neg h4]
        by_cases h5 : ((x.f5.length : Int)) > 50
        · rw [if_pos h5]
          exact ⟨true, hj _ rfl, fun h => by cases h⟩
        · rw [if_neg h5]
          by_cases h6 : ((x.f6.length : Int)) > 20
          · exact ⟨true, hj _ (by simpa using h6), fun h => by cases h⟩
          · rw [pacelinelaw08_heavy.j2, if_neg (by simpa using h6)]
            obtain ⟨m, rfl⟩ : ∃ m, k = m + x.f3.length + 1 := ⟨k - x.f3.length - 1, by omega⟩
            rcases heavy_l1 l1 l0 a0 x (by omega) p x.f3.length m 0 (by omega) (by omega) with ⟨_, e⟩ | ⟨hr, e⟩
            · exact ⟨true, e, fun h => by cases h⟩
            · rw [show ((0 : Nat) : Int) = 0 from rfl] at e
              rw [e, wrap64_id (by omega) (by omega), succ_cast]
              obtain ⟨b, hb, hf⟩ := ih m (p + 1) (by omega) (by omega) (by omega)
              refine ⟨b, hb, fun h y hy => ?_⟩
              rcases List.mem_cons.mp hy with rfl | hy
              · exact ⟨by omega, by omega, by omega, by omega, fun r hr' => hr r (by simpa using hr')⟩
              · exact hf h y hy
theorem heavy_told (l0 : List Int) (l1 : List Fd) (a0 : Int) (k : Nat) (hk : 3000 ≤ k) : ∃ b, pacelinelaw08_heavy.f k l0 l1 a0 = some b ∧ (b = false → l0.length ≤ 50 ∧ l1.length ≤ 20 ∧ ∀ x ∈ l1, FLight x) := by
  obtain ⟨k, rfl⟩ : ∃ m, k = m + 1 := ⟨k - 1, by omega⟩
  unfold pacelinelaw08_heavy.f
  by_cases h0 : (l0.length : Int) > 50
  · rw [if_pos h0]
    exact ⟨true, by rw [pacelinelaw08_heavy.j0, if_pos rfl], fun h => by cases h⟩
  · rw [if_neg h0, pacelinelaw08_heavy.j0]
    by_cases h1 : (l1.length : Int) > 20
    · exact ⟨true, by rw [if_pos (by simpa using h1)], fun h => by cases h⟩
    · rw [if_neg (by simpa using h1)]
      obtain ⟨b, hb, hf⟩ := heavy_l0 l1 l0 a0 (by omega) l1.length k 0 (by omega) (by omega) (by omega)
      exact ⟨b, hb, fun h => ⟨by omega, by omega, fun x hx => hf h x (by simpa using hx)⟩⟩
/-! classes -/
theorem classes_loop (l : List Int) (most : Int) (hl : l.length ≤ 1000) (d : Nat) : ∀ (k p : Nat) (last : Int), p ≤ l.length → l.length - p = d → d < k → (p = 0 → last = -1) → (0 < p → 0 ≤ last ∧ last = l.getD (p - 1) 0) →
    pacelineref08_classes.l0 k l most (p : Int) = some (config_Check.rising most last (l.drop p)) := by
  induction d with
  | zero =>
    intro k p last h0 hd hk _ _
    obtain ⟨k, rfl⟩ : ∃ m, k = m + 1 := ⟨k - 1, by omega⟩
    rw [pacelineref08_classes.l0, if_neg (by omega), List.drop_eq_nil_of_le (by omega)]
    rfl
  | succ d ih =>
    intro k p last h0 hd hk hz hpz
    obtain ⟨k, rfl⟩ : ∃ m, k = m + 1 := ⟨k - 1, by omega⟩
    have hp : p < l.length := by omega
    rw [pacelineref08_classes.l0, if_pos (by omega), if_pos (by omega), rdI hp, List.drop_eq_getElem_cons hp, config_Check.rising]
    have hI := ih k (p + 1) l[p] (by omega) (by omega) (by omega) (fun h => by omega)
    have hg : l[p] = l.getD (p + 1 - 1) 0 := by
      rw [Nat.add_sub_cancel, List.getD_eq_getElem?_getD, List.getElem?_eq_getElem hp]
      rfl
    by_cases h1 : l[p] < 0
    · rw [if_pos h1, if_pos]
      by_cases hp0 : p = 0
      · have := hz hp0
        exact .inl (by omega)
      · have := (hpz (by omega)).1
        exact .inl (by omega)
    · rw [if_neg h1]
      by_cases h2 : l[p] ≥ most
      · rw [if_pos h2, if_pos (.inr h2)]
      · rw [if_neg h2]
        have hI' := hI (fun _ => ⟨by omega, hg⟩)
        by_cases hp0 : p = 0
        · have := hz hp0
          rw [if_neg (by omega), if_neg (fun h => h.elim (fun h => by omega) h2), wrap64_id (x := (p : Int) + 1) (by omega) (by omega), succ_cast]
          exact hI'
        · obtain ⟨q1, q2⟩ := hpz (by omega)
          rw [if_pos (by omega), wrap64_id (x := (p : Int) - 1) (by omega) (by omega), if_pos (by omega), if_pos (by omega), show (p : Int) - 1 = ((p - 1 : Nat) : Int) by omega, show rd l ((p - 1 : Nat) : Int) = l.getD (p - 1) 0 from rfl, ← q2]
          by_cases h3 : l[p] ≤ last
          · rw [if_pos h3, if_pos (.inl h3)]
          · rw [if_neg h3, if_neg (fun h => h.elim h3 h2), wrap64_id (x := (p : Int) + 1) (by omega) (by omega), succ_cast]
            exact hI'
theorem rclasses (l : List Int) (most : Int) (hl : l.length ≤ 1000) (k : Nat) (hk : l.length < k) : pacelineref08_classes.f k l most = some (config_Check.rising most (-1) l) := by
  unfold pacelineref08_classes.f
  exact classes_loop l most hl l.length k 0 (-1) (by omega) (by omega) hk (fun _ => rfl) (fun h => by omega)
/-! Fed -/
def initE (x : Fd) : Int := config_Check.un (decide (x.f6.length ≤ 4) && !(x.f6.any (config_Check.odd x.f4))) 82
theorem fed_l2 (x : Fd) (h4 : x.f4.length ≤ 50) (h6 : x.f6.length ≤ 4) (d : Nat) : ∀ (k p : Nat), p ≤ x.f6.length → x.f6.length - p = d → 60 + d ≤ k →
    pacelineref08_Fed.l2 k (p : Int) x.f0 x.f1 x.f2 x.f3 x.f4 x.f5 x.f6 = some (if (x.f6.drop p).any (config_Check.odd x.f4) = true then 82 else 0) := by
  induction d with
  | zero =>
    intro k p h0 hd hk
    obtain ⟨k, rfl⟩ : ∃ m, k = m + 1 := ⟨k - 1, by omega⟩
    rw [pacelineref08_Fed.l2, if_neg (by omega), List.drop_eq_nil_of_le (by omega)]
    rfl
  | succ d ih =>
    intro k p h0 hd hk
    obtain ⟨k, rfl⟩ : ∃ m, k = m + 1 := ⟨k - 1, by omega⟩
    have hp : p < x.f6.length := by omega
    have hI := ih k (p + 1) (by omega) (by omega) (by omega)
    rw [pacelineref08_Fed.l2, if_pos (by omega), if_pos (by omega), rdO' hp, List.drop_eq_getElem_cons hp, List.any_cons, rhas x.f4 _ (by omega) k (by omega), wrap64_id (by omega) (by omega), succ_cast, hI]
    generalize x.f6[p] = o
    simp only [Option.bind_some]
    have ho : config_Check.odd x.f4 o = (!(decide (o.f0 ∈ x.f4)) || !(decide (0 ≤ o.f1 ∧ o.f1 ≤ 1099511627776)) || !(decide (0 ≤ o.f2 ∧ o.f2 ≤ 999))) := rfl
    by_cases q0 : o.f0 ∈ x.f4
    · rw [if_pos (decide_eq_true q0)]
      by_cases q1 : o.f1 < 0
      · rw [if_pos q1, if_pos (by rw [ho, decide_eq_false (p := 0 ≤ o.f1 ∧ o.f1 ≤ 1099511627776) (by omega)]; simp)]
      · rw [if_neg q1]
        by_cases q2 : o.f1 > 1099511627776
        · rw [if_pos q2, if_pos (by rw [ho, decide_eq_false (p := 0 ≤ o.f1 ∧ o.f1 ≤ 1099511627776) (by omega)]; simp)]
        · rw [if_neg q2]
          by_cases q3 : o.f2 < 0
          · rw [if_pos q3, if_pos (by rw [ho, decide_eq_false (p := 0 ≤ o.f2 ∧ o.f2 ≤ 999) (by omega)]; simp)]
          · rw [if_neg q3]
            by_cases q4 : o.f2 ≥ 1000
            · rw [if_pos q4, if_pos (by rw [ho, decide_eq_false (p := 0 ≤ o.f2 ∧ o.f2 ≤ 999) (by omega)]; simp)]
            · rw [if_neg q4]
              have : config_Check.odd x.f4 o = false := by
                rw [ho, decide_eq_true q0, decide_eq_true (show 0 ≤ o.f1 ∧ o.f1 ≤ 1099511627776 by omega), decide_eq_true (show 0 ≤ o.f2 ∧ o.f2 ≤ 999 by omega)]
                rfl
              rw [this, Bool.false_or]
    · rw [if_neg (by simpa using q0), if_pos (by rw [ho, decide_eq_false q0]; simp)]
theorem fed_init (x : Fd) (h4 : x.f4.length ≤ 50) (k : Nat) (hk : 70 ≤ k) : (if (x.f6.length : Int) > 4 then some (82 : Int) else pacelineref08_Fed.l2 k 0 x.f0 x.f1 x.f2 x.f3 x.f4 x.f5 x.f6) = some (initE x) := by
  unfold initE config_Check.un
  by_cases h6 : (x.f6.length : Int) > 4
  · rw [if_pos h6, decide_eq_false (show ¬ x.f6.length ≤ 4 by omega)]
    simp
  · have := fed_l2 x h4 (by omega) x.f6.length k 0 (by omega) (by omega) (by omega)
    rw [show ((0 : Nat) : Int) = 0 from rfl, List.drop_zero] at this
    rw [if_neg h6, this, decide_eq_true (show x.f6.length ≤ 4 by omega)]
    cases x.f6.any (config_Check.odd x.f4) <;> simp
theorem sendE_eq (pubs : List Int) (look : Int) (o : Ou) : config_Check.sendE pubs look o = if o.f0 ∈ pubs then (if o.f1 < look then 80 else 0) else 81 := by
  unfold config_Check.sendE config_Check.un config_Check.has
  by_cases h : o.f0 ∈ pubs
  · by_cases h2 : look ≤ o.f1
    · have h3 : ¬ o.f1 < look := by omega
      simp [config_Check.firstE, h, h2, h3]
    · have h3 : o.f1 < look := by omega
      simp [config_Check.firstE, h, h2, h3]
  · simp [config_Check.firstE, h]
theorem fed_l1 (x : Fd) (most : Int) (h4 : x.f4.length ≤ 50) (p : Nat) (hp : p < x.f3.length) (h3 : x.f3.length ≤ 60) (hs : x.f3[p].f3.length ≤ 20) (d : Nat) : ∀ (k q : Nat), q ≤ x.f3[p].f3.length → x.f3[p].f3.length - q = d → 60 ≤ k →
    pacelineref08_Fed.l1 (k + d + 1) most (p : Int) (q : Int) x.f0 x.f1 x.f2 x.f3 x.f4 x.f5 x.f6 = if config_Check.sendsE x.f4 x.f1 (x.f3[p].f3.drop q) = 0 then pacelineref08_Fed.l0 k most (wrap64 ((p : Int) + 1)) x.f0 x.f1 x.f2 x.f3 x.f4 x.f5 x.f6 else some (config_Check.sendsE x.f4 x.f1 (x.f3[p].f3.drop q)) := by
  induction d with
  | zero =>
    intro k q h0 hd hk
    rw [Nat.add_zero, pacelineref08_Fed.l1, if_pos (by omega), if_pos (by omega), rdR' hp, if_neg (by omega), List.drop_eq_nil_of_le (by omega)]
    rfl
  | succ d ih =>
    intro k q h0 hd hk
    have hq : q < x.f3[p].f3.length := by omega
    have hI := ih k (q + 1) (by omega) (by omega) hk
    obtain ⟨K, hK⟩ : ∃ K, K = k + d + 1 := ⟨_, rfl⟩
    rw [← hK] at hI
    rw [show k + (d + 1) + 1 = K + 1 by omega, pacelineref08_Fed.l1, if_pos (by omega), if_pos (by omega), rdR' hp, if_pos (by omega), if_pos (by omega), rdO' hq, rhas x.f4 _ (by omega) K (by omega), wrap64_id (x := (q : Int) + 1) (by omega) (by omega), succ_cast q, hI, List.drop_eq_getElem_cons hq, config_Check.sendsE]
    simp only [Option.bind_some]
    rw [sendE_eq]
    generalize x.f3[p].f3[q] = o
    by_cases h : o.f0 ∈ x.f4
    · rw [if_pos (decide_eq_true h)]
      simp only [h, if_true]
      by_cases h2 : o.f1 < x.f1
      · simp [h2]
      · simp [h2]
    · rw [if_neg (by simpa using h)]
      simp [h]
theorem fed_l0 (x : Fd) (most : Int) (hx : FLight x) (d : Nat) : ∀ (k p : Nat), p ≤ x.f3.length → x.f3.length - p = d → 100 * d + 200 ≤ k →
    pacelineref08_Fed.l0 k most (p : Int) x.f0 x.f1 x.f2 x.f3 x.f4 x.f5 x.f6 = some (if config_Check.rulesE x.f4 x.f1 most (x.f3.drop p) = 0 then initE x else config_Check.rulesE x.f4 x.f1 most (x.f3.drop p)) := by
  obtain ⟨g3, g4, g5, g6, g7⟩ := hx
  induction d with
  | zero =>
    intro k p h0 hd hk
    obtain ⟨k, rfl⟩ : ∃ m, k = m + 1 := ⟨k - 1, by omega⟩
    rw [pacelineref08_Fed.l0, if_neg (by omega), List.drop_eq_nil_of_le (by omega), fed_init x g4 k (by omega)]
    rfl
  | succ d ih =>
    intro k p h0 hd hk
    have hp : p < x.f3.length := by omega
    have hs := g7 _ (List.getElem_mem hp)
    obtain ⟨k, rfl⟩ : ∃ m, k = (m + x.f3[p].f3.length + 1) + 1 := ⟨k - x.f3[p].f3.length - 2, by omega⟩
    have hI := ih k (p + 1) (by omega) (by omega) (by omega)
    have h1 := fed_l1 x most g4 p hp g3 hs x.f3[p].f3.length k 0 (by omega) (by omega) (by omega)
    rw [show ((0 : Nat) : Int) = 0 from rfl, List.drop_zero, wrap64_id (x := (p : Int) + 1) (by omega) (by omega), succ_cast, hI] at h1
    rw [pacelineref08_Fed.l0, if_pos (by omega), if_pos (by omega), h1, rdR' hp, List.drop_eq_getElem_cons hp, config_Check.rulesE]
    by_cases hm : x.f3[p].f1 ≥ most
    · rw [if_pos hm, if_pos (show most ≤ x.f3[p].f1 from hm)]
      rfl
    · rw [if_neg hm, if_neg (show ¬ most ≤ x.f3[p].f1 from hm)]
      by_cases hz : config_Check.sendsE x.f4 x.f1 x.f3[p].f3 = 0
      · rw [if_pos hz, if_pos hz]
      · rw [if_neg hz, if_neg hz, if_neg hz]
theorem firstE_un (b : Bool) (e : Int) (he : e ≠ 0) (l : List Int) : config_Check.firstE (config_Check.un b e :: l) = if b = true then config_Check.firstE l else e := by
  unfold config_Check.un
  cases b with
  | true => rw [config_Check.firstE]; simp
  | false => rw [config_Check.firstE]; simp [he]
theorem rfed (x : Fd) (most : Int) (hx : FLight x) (k : Nat) (hk : 8000 ≤ k) : pacelineref08_Fed.f k x.f0 x.f1 x.f2 x.f3 x.f4 x.f5 x.f6 most = some (config_Check.fedE x most) := by
  have hx' := hx
  obtain ⟨g3, g4, g5, g6, g7⟩ := hx'
  obtain ⟨k, rfl⟩ : ∃ m, k = m + 4 := ⟨k - 4, by omega⟩
  have hl := fed_l0 x most hx x.f3.length k 0 (by omega) (by omega) (by omega)
  rw [show ((0 : Nat) : Int) = 0 from rfl, List.drop_zero] at hl
  have e3 : pacelineref08_Fed.j3 (k + 1) most (!(config_Check.rising most (-1) x.f4 && config_Check.rising most (-1) x.f5)) x.f0 x.f1 x.f2 x.f3 x.f4 x.f5 x.f6 = some (if (config_Check.rising most (-1) x.f4 && config_Check.rising most (-1) x.f5) = true then (if config_Check.rulesE x.f4 x.f1 most x.f3 = 0 then initE x else config_Check.rulesE x.f4 x.f1 most x.f3) else 81) := by
    rw [pacelineref08_Fed.j3, hl]
    cases (config_Check.rising most (-1) x.f4 && config_Check.rising most (-1) x.f5) <;> simp
  have e2 : ∀ b, pacelineref08_Fed.j2 (k + 2) most b x.f0 x.f1 x.f2 x.f3 x.f4 x.f5 x.f6 = if b = true then some 70 else some (if (config_Check.rising most (-1) x.f4 && config_Check.rising most (-1) x.f5) = true then (if config_Check.rulesE x.f4 x.f1 most x.f3 = 0 then initE x else config_Check.rulesE x.f4 x.f1 most x.f3) else 81) := fun b => by
    rw [pacelineref08_Fed.j2, rclasses _ _ (by omega) (k + 1) (by omega), rclasses _ _ (by omega) (k + 1) (by omega), ← e3]
    simp only [Option.bind_some]
    cases b with
    | true => rfl
    | false =>
      simp only [Bool.false_eq_true, if_false]
      cases config_Check.rising most (-1) x.f4 <;> simp
  have hfed : config_Check.fedE x most = if config_Check.wi x.f0 0 1 = true then (if config_Check.wi x.f1 1 1048576 = true then (if config_Check.wi x.f2 0 7 = true then (if config_Check.tableE x.f3 = 0 then (if (config_Check.rising most (-1) x.f4 && config_Check.rising most (-1) x.f5) = true then (if config_Check.rulesE x.f4 x.f1 most x.f3 = 0 then initE x else config_Check.rulesE x.f4 x.f1 most x.f3) else 81) else config_Check.tableE x.f3) else 70) else 80) else 1 := by
    unfold config_Check.fedE
    rw [firstE_un _ 1 (by decide), firstE_un _ 80 (by decide), firstE_un _ 70 (by decide), config_Check.firstE, firstE_un _ 81 (by decide), config_Check.firstE]
    have hi : config_Check.firstE [config_Check.un (decide (x.f6.length ≤ 4) && !(x.f6.any (config_Check.odd x.f4))) 82] = initE x := by
      rw [firstE_un _ 82 (by decide)]
      rfl
    rw [hi]
  have ht : config_Check.tableE x.f3 = checkV x.f3 := rfl
  have ht70 : checkV x.f3 = 0 ∨ checkV x.f3 = 70 := by
    unfold checkV
    split
    · exact .inr rfl
    · have : ∀ (t l : List Rl), table_Check.scan l t = 0 ∨ table_Check.scan l t = 70 := by
        intro t
        induction t with
        | nil => exact fun l => .inl rfl
        | cons r t ih =>
          intro l
          rw [table_Check.scan]
          split
          · exact .inr rfl
          · exact ih _
      exact this _ _
  have w0 : config_Check.wi x.f0 0 1 = decide (0 ≤ x.f0 ∧ x.f0 ≤ 1) := rfl
  have w1 : config_Check.wi x.f1 1 1048576 = decide (1 ≤ x.f1 ∧ x.f1 ≤ 1048576) := rfl
  have w2 : config_Check.wi x.f2 0 7 = decide (0 ≤ x.f2 ∧ x.f2 ≤ 7) := rfl
  have e1 : ∀ b, pacelineref08_Fed.j1 (k + 3) most b x.f0 x.f1 x.f2 x.f3 x.f4 x.f5 x.f6 = if b = true then some 80 else some (if config_Check.wi x.f2 0 7 = true then (if config_Check.tableE x.f3 = 0 then (if (config_Check.rising most (-1) x.f4 && config_Check.rising most (-1) x.f5) = true then (if config_Check.rulesE x.f4 x.f1 most x.f3 = 0 then initE x else config_Check.rulesE x.f4 x.f1 most x.f3) else 81) else config_Check.tableE x.f3) else 70) := fun b => by
    rw [pacelineref08_Fed.j1, rcheck x.f3 (k + 2) (by omega), e2, w2]
    cases b with
    | true => rfl
    | false =>
      simp only [Bool.false_eq_true, if_false, Option.bind_some, if_true]
      by_cases q1 : x.f2 < 0
      · rw [if_pos q1, if_neg (fun h => by have := of_decide_eq_true h; omega)]
      · rw [if_neg q1]
        by_cases q2 : x.f2 ≥ 8
        · rw [if_pos q2, if_neg (fun h => by have := of_decide_eq_true h; omega)]
        · rw [if_neg q2, e2, ht, decide_eq_true (show 0 ≤ x.f2 ∧ x.f2 ≤ 7 by omega)]
          rcases ht70 with h | h
          · rw [h]
            simp
          · rw [h]
            simp
  have e0 : ∀ b, pacelineref08_Fed.j0 (k + 4) most b x.f0 x.f1 x.f2 x.f3 x.f4 x.f5 x.f6 = if b = true then some 1 else some (if config_Check.wi x.f1 1 1048576 = true then (if config_Check.wi x.f2 0 7 = true then (if config_Check.tableE x.f3 = 0 then (if (config_Check.rising most (-1) x.f4 && config_Check.rising most (-1) x.f5) = true then (if config_Check.rulesE x.f4 x.f1 most x.f3 = 0 then initE x else config_Check.rulesE x.f4 x.f1 most x.f3) else 81) else config_Check.tableE x.f3) else 70) else 80) := fun b => by
    rw [pacelineref08_Fed.j0, e1, e1, w1]
    cases b with
    | true => rfl
    | false =>
      simp only [Bool.false_eq_true, if_false, if_true]
      by_cases q1 : x.f1 < 1
      · rw [if_pos q1, if_neg (fun h => by have := of_decide_eq_true h; omega)]
      · rw [if_neg q1]
        by_cases q2 : x.f1 > 1048576
        · rw [if_pos (decide_eq_true q2), if_neg (fun h => by have := of_decide_eq_true h; omega)]
        · rw [if_neg (by simpa using q2), if_pos (decide_eq_true (by omega))]
  unfold pacelineref08_Fed.f
  rw [e0, e0, hfed, w0]
  by_cases q0 : x.f0 = 0
  · rw [if_pos q0, if_neg (by simp), if_pos (decide_eq_true (by omega))]
  · rw [if_neg q0]
    by_cases q1 : x.f0 = 1
    · rw [if_neg (by simp [q1]), if_pos (decide_eq_true (by omega))]
    · rw [if_pos (by simp [q1]), if_neg (fun h => by have := of_decide_eq_true h; omega)]
/-! Check -/
theorem check_l0 (l0 : List Int) (l1 : List Fd) (a0 : Int) (hl : l1.length ≤ 20) (hx : ∀ x ∈ l1, FLight x) (d : Nat) : ∀ (k p : Nat), p ≤ l1.length → l1.length - p = d → 8000 + d ≤ k →
    pacelineref08_Check.l0 k (p : Int) l0 l1 a0 = some (config_Check.fedsE (l0.length : Int) (p : Int) (l1.drop p)) := by
  induction d with
  | zero =>
    intro k p h0 hd hk
    obtain ⟨k, rfl⟩ : ∃ m, k = m + 1 := ⟨k - 1, by omega⟩
    rw [pacelineref08_Check.l0, if_neg (by omega), List.drop_eq_nil_of_le (by omega)]
    rfl
  | succ d ih =>
    intro k p h0 hd hk
    obtain ⟨k, rfl⟩ : ∃ m, k = m + 1 := ⟨k - 1, by omega⟩
    have hp : p < l1.length := by omega
    have hI := ih k (p + 1) (by omega) (by omega) (by omega)
    rw [pacelineref08_Check.l0, if_pos (by omega), if_pos (by omega), rdF hp, rfed l1[p] _ (hx _ (List.getElem_mem hp)) k (by omega), wrap64_id (by omega) (by omega), succ_cast, hI, List.drop_eq_getElem_cons hp, config_Check.fedsE]
    simp only [Option.bind_some]
    rw [succ_cast]
    by_cases hz : config_Check.fedE l1[p] (l0.length : Int) = 0
    · rw [if_pos hz, if_pos hz]
    · rw [if_neg hz, if_neg hz]
theorem rcheck8 (l0 : List Int) (l1 : List Fd) (a0 : Int) (hl : l1.length ≤ 20) (hx : ∀ x ∈ l1, FLight x) (k : Nat) (hk : 9000 ≤ k) : pacelineref08_Check.f k l0 l1 a0 = some (config_Check.all l0 l1 a0) := by
  obtain ⟨k, rfl⟩ : ∃ m, k = m + 1 := ⟨k - 1, by omega⟩
  have hc := check_l0 l0 l1 a0 hl hx l1.length k 0 (by omega) (by omega) (by omega)
  rw [show ((0 : Nat) : Int) = 0 from rfl, List.drop_zero] at hc
  unfold pacelineref08_Check.f config_Check.all
  rw [rck l0 (k + 1) (by omega)]
  simp only [Option.bind_some]
  have hj : ∀ b, pacelineref08_Check.j0 (k + 1) b l0 l1 a0 = if b = true then some ((-1), 1) else some (config_Check.fedsE (l0.length : Int) 0 l1) := fun b => by
    rw [pacelineref08_Check.j0, hc]
  by_cases ht : treeB l0 = true
  · rw [if_pos ht, if_pos rfl, hj, hj]
    have hf : config_Check.firstE [0, config_Check.un (config_Check.wi a0 0 1099511627776 && config_Check.wi (l1.length : Int) 1 8) 1] = if (config_Check.wi a0 0 1099511627776 && config_Check.wi (l1.length : Int) 1 8) = true then 0 else 1 := by
      rw [config_Check.firstE, if_pos rfl, firstE_un _ 1 (by decide)]
      rfl
    rw [hf]
    unfold config_Check.wi
    by_cases q1 : a0 < 0
    · rw [if_pos q1, decide_eq_false (show ¬ (0 ≤ a0 ∧ a0 ≤ 1099511627776) by omega)]
      simp
    · rw [if_neg q1]
      by_cases q2 : a0 > 1099511627776
      · rw [if_pos q2, decide_eq_false (show ¬ (0 ≤ a0 ∧ a0 ≤ 1099511627776) by omega)]
        simp
      · rw [if_neg q2, decide_eq_true (show 0 ≤ a0 ∧ a0 ≤ 1099511627776 by omega)]
        by_cases q3 : (l1.length : Int) < 1
        · rw [if_pos q3, decide_eq_false (show ¬ (1 ≤ (l1.length : Int) ∧ (l1.length : Int) ≤ 8) by omega)]
          simp
        · rw [if_neg q3]
          by_cases q4 : (l1.length : Int) > 8
          · rw [decide_eq_true q4, decide_eq_false (show ¬ (1 ≤ (l1.length : Int) ∧ (l1.length : Int) ≤ 8) by omega)]
            simp
          · rw [decide_eq_false q4, decide_eq_true (show 1 ≤ (l1.length : Int) ∧ (l1.length : Int) ≤ 8 by omega)]
            simp
  · rw [if_neg ht, if_neg (by omega)]
    have hf : ∀ e, config_Check.firstE [50, e] = 50 := fun e => by rw [config_Check.firstE, if_neg (by decide)]
    rw [hf, if_neg (by decide)]
theorem wfr_all {l : List Rl} (h : OkAll ok44 l) : l.all table_Check.wfr = true := by
  have := tcheck h
  unfold table_Check.f at this
  split at this
  · assumption
  · cases this
theorem tcheck8 (l0 : List Int) (l1 : List Fd) (a0 : Int) (h : OkAll ok42 l1) : config_Check.f l0 l1 a0 = some (config_Check.all l0 l1 a0) := by
  unfold config_Check.f
  rw [if_pos]
  exact List.all_eq_true.mpr fun x hx => wfr_all (h.2 x hx).2.2.2.1

theorem troutes (l0 : List Int) (l1 : List Fd) (a0 f c : Int) (hl : l1.length ≤ 20) : config_Routes.f l0 l1 a0 f c = some (config_Routes.to l0 f c l1 l1.length) := by
  unfold config_Routes.f
  rw [if_pos (by omega)]

/-! ### config: what is sent -/
abbrev Ms := S48
def cl (a : Int) : Int := if a < 0 then 0 else if a > 1099511627776 then 1125899906842624 else a
theorem cl_range (a : Int) : 0 ≤ cl a ∧ cl a ≤ 1125899906842624 := by unfold cl; split <;> (try split) <;> omega
theorem clamp_eq (a : Int) : vtime_clamp.f a = some (cl a) := by unfold vtime_clamp.f cl; split <;> (try split) <;> rfl
theorem add_eq (a d : Int) : vtime_Add.f a d = some (cl (cl a + cl d)) := by
  unfold vtime_Add.f
  have := cl_range a; have := cl_range d
  simp only [clamp_eq, Option.bind_some]
  rw [wrap64_id (by omega) (by omega)]
theorem tmod_split (a : Int) : (0 ≤ a ∧ Int.tmod a 1000 = a % 1000) ∨ (a < 0 ∧ Int.tmod a 1000 = -((-a) % 1000)) := by
  rcases Int.lt_or_le a 0 with h | h
  · right
    refine ⟨h, ?_⟩
    have : Int.tmod (-(-a)) 1000 = -Int.tmod (-a) 1000 := Int.neg_tmod ..
    rw [Int.neg_neg] at this
    rw [this, Int.tmod_eq_emod_of_nonneg (by omega)]
  · exact .inl ⟨h, Int.tmod_eq_emod_of_nonneg h⟩
theorem modulo_eq (a : Int) : table_modulo.f a = some (a % 1000) := by
  unfold table_modulo.f
  rcases tmod_split a with ⟨h, e⟩ | ⟨h, e⟩ <;> rw [e]
  · rw [if_neg (by omega)]
  · split
    · rw [wrap64_id (by omega) (by omega)]; congr 1; omega
    · congr 1; omega
theorem sent_eq (from_ seq now body c d e : Int) : table_Sent.f from_ seq now body c d e = some (cl (cl now + cl d), from_, seq, -1, c, (body % 1000 + e % 1000) % 1000) := by
  unfold table_Sent.f
  simp only [add_eq, modulo_eq, Option.bind_some]
  rw [wrap64_id (by omega) (by omega)]

/-! ### config: the messages of a send -/
def msgs (f seq now body : Int) (o : Ou) (tos : List Int) : List Ms := tos.map fun t => ⟨⟨cl (cl now + cl o.f1), f, seq⟩, t, o.f0, (body % 1000 + o.f2 % 1000) % 1000⟩
def spreadL (l0 : List Int) (l1 : List Fd) (f now body : Int) : Int → List Ou → List Ms
  | _, [] => []
  | seq, o :: t => msgs f (wrap64 seq) now body o (config_Routes.to l0 f o.f0 l1 l1.length) ++ spreadL l0 l1 f now body (seq + 1) t
theorem spreadL_length (l0 : List Int) (l1 : List Fd) (f now body : Int) (hl : l1.length ≤ 20) (t : List Ou) : ∀ seq, (spreadL l0 l1 f now body seq t).length ≤ 20 * t.length := by
  induction t with
  | nil => exact fun _ => Nat.le_refl _
  | cons o t ih =>
    intro seq
    have := ih (seq + 1)
    have := config_Routes.to_length l0 f o.f0 l1 l1.length
    simp only [spreadL, msgs, List.length_append, List.length_map, List.length_cons]
    omega
theorem tspread_l1 (l0 : List Int) (l1 : List Fd) (a0 f seq now body : Int) (l5 : List Ou) (n i : Int) (tos : List Int) (ht : tos.length ≤ 20) (q0 q1 q2 q4 q5 : Int) (d : Nat) : ∀ (k p : Nat) (acc : List Ms) (q3 : Int), p ≤ tos.length → tos.length - p = d → acc.length + d ≤ 1000000 →
    config_Spread.l1 (k + d + 1) f seq now body acc l5 n i tos (tos.length : Int) (p : Int) l0 l1 a0 q0 q1 q2 q3 q4 q5 = config_Spread.l0 k f seq now body (acc ++ (tos.drop p).map fun t => (⟨⟨q0, q1, q2⟩, t, q4, q5⟩ : Ms)) l5 n (wrap64 (i + 1)) l0 l1 a0 := by
  induction d with
  | zero =>
    intro k p acc q3 h0 hd ha
    rw [Nat.add_zero, config_Spread.l1, if_neg (by omega), List.drop_eq_nil_of_le (by omega), List.map_nil, List.append_nil]
  | succ d ih =>
    intro k p acc q3 h0 hd ha
    have hp : p < tos.length := by omega
    rw [show k + (d + 1) + 1 = (k + d + 1) + 1 by omega, config_Spread.l1, if_pos (by omega), if_pos (by omega), if_pos (by omega), if_pos (by omega), wrap64_id (x := (p : Int) + 1) (by omega) (by omega), succ_cast, rdI hp,
      ih k (p + 1) _ _ (by omega) (by omega) (by simp; omega), List.drop_eq_getElem_cons hp, List.map_cons, List.append_assoc, List.singleton_append]
theorem tspread_l0 (l0 : List Int) (l1 : List Fd) (a0 f seq now body : Int) (hl : l1.length ≤ 20) (l5 : List Ou) (h5 : l5.length ≤ 20) (d : Nat) : ∀ (k i : Nat) (acc : List Ms), i ≤ l5.length → l5.length - i = d → 30 * d + 10 ≤ k → acc.length + 20 * d ≤ 1000000 →
    config_Spread.l0 k f seq now body acc l5 (l5.length : Int) (i : Int) l0 l1 a0 = some (acc ++ spreadL l0 l1 f now body (seq + i) (l5.drop i)) := by
  induction d with
  | zero =>
    intro k i acc h0 hd hk ha
    obtain ⟨k, rfl⟩ : ∃ m, k = m + 1 := ⟨k - 1, by omega⟩
    rw [config_Spread.l0, if_neg (by omega), List.drop_eq_nil_of_le (by omega), spreadL, List.append_nil]
  | succ d ih =>
    intro k i acc h0 hd hk ha
    have hi : i < l5.length := by omega
    have hto := config_Routes.to_length l0 f l5[i].f0 l1 l1.length
    obtain ⟨k, rfl⟩ : ∃ m, k = (m + (config_Routes.to l0 f l5[i].f0 l1 l1.length).length + 1) + 1 := ⟨k - (config_Routes.to l0 f l5[i].f0 l1 l1.length).length - 2, by omega⟩
    rw [config_Spread.l0, if_pos (by omega), if_pos (by omega), if_pos (by omega), rdO' hi, sent_eq]
    simp only [Option.bind_some]
    rw [troutes l0 l1 a0 f _ hl]
    simp only [Option.bind_some]
    have h1 := tspread_l1 l0 l1 a0 f seq now body l5 (l5.length : Int) (i : Int) (config_Routes.to l0 f l5[i].f0 l1 l1.length) (by omega) (cl (cl now + cl l5[i].f1)) f (wrap64 (seq + i)) l5[i].f0 ((body % 1000 + l5[i].f2 % 1000) % 1000) (config_Routes.to l0 f l5[i].f0 l1 l1.length).length k 0 acc (-1) (by omega) (by omega) (by omega)
    rw [show ((0 : Nat) : Int) = 0 from rfl, List.drop_zero] at h1
    rw [h1, wrap64_id (x := (i : Int) + 1) (by omega) (by omega), succ_cast, ih k (i + 1) _ (by omega) (by omega) (by omega) (by simp; omega), List.drop_eq_getElem_cons hi, spreadL, List.append_assoc, show seq + ((i + 1 : Nat) : Int) = seq + i + 1 by omega]
    rfl
theorem tspread (l0 : List Int) (l1 : List Fd) (a0 f seq now body : Int) (hl : l1.length ≤ 20) (l5 : List Ou) (h5 : l5.length ≤ 20) (k : Nat) (hk : 1000 ≤ k) : config_Spread.f k l0 l1 a0 f seq now body l5 = some (spreadL l0 l1 f now body seq l5) := by
  have h := tspread_l0 l0 l1 a0 f seq now body hl l5 h5 l5.length k 0 [] (by omega) (by omega) (by omega) (by simp; omega)
  rw [show ((0 : Nat) : Int) = 0 from rfl, List.drop_zero, Int.add_zero, List.nil_append] at h
  exact h
theorem rdM {l : List Ms} {p : Nat} (hp : p < l.length) : rd_T48 l (p : Int) = l[p] := by
  show l.getD p _ = l[p]
  rw [List.getD_eq_getElem?_getD, List.getElem?_eq_getElem hp]
  rfl

/-! ### config: the messages that a federation starts with -/
def startsL (l0 : List Int) (l1 : List Fd) : Int → List Fd → List Ms
  | _, [] => []
  | g, x :: t => spreadL l0 l1 g 0 0 0 x.f6 ++ startsL l0 l1 (g + 1) t
set_option maxRecDepth 10000 in
theorem tstarts_l0 (l0 : List Int) (l1 : List Fd) (a0 : Int) (hl : l1.length ≤ 20) (hx : ∀ x ∈ l1, FLight x) (d : Nat) : ∀ (k g : Nat) (acc : List Ms), g ≤ l1.length → l1.length - g = d → d + 1100 ≤ k → acc.length + 400 * d ≤ 1000000 →
    config_Starts.l0 k acc l1 (l1.length : Int) (g : Int) l0 l1 a0 = some (acc ++ startsL l0 l1 g (l1.drop g)) := by
  induction d with
  | zero =>
    intro k g acc h0 hd hk ha
    obtain ⟨k, rfl⟩ : ∃ m, k = m + 1 := ⟨k - 1, by omega⟩
    rw [config_Starts.l0, if_neg (by omega), List.drop_eq_nil_of_le (by omega), startsL, List.append_nil]
  | succ d ih =>
    intro k g acc h0 hd hk ha
    have hg : g < l1.length := by omega
    have h6 := (hx _ (List.getElem_mem hg)).2.2.2.1
    have hs := spreadL_length l0 l1 (g : Int) 0 0 hl l1[g].f6 0
    obtain ⟨k, rfl⟩ : ∃ m, k = m + 1 := ⟨k - 1, by omega⟩
    have hS := tspread l0 l1 a0 (g : Int) 0 0 0 hl l1[g].f6 h6 k (by omega)
    rw [config_Starts.l0, if_pos (by omega), if_pos (by omega), if_pos (by omega), rdF hg, hS]
    simp only [Option.bind_some]
    rw [if_pos (by omega), wrap64_id (x := (g : Int) + 1) (by omega) (by omega), succ_cast, ih k (g + 1) _ (by omega) (by omega) (by omega) (by simp; omega), List.drop_eq_getElem_cons hg, startsL, List.append_assoc, succ_cast]
theorem tstarts (l0 : List Int) (l1 : List Fd) (a0 : Int) (hl : l1.length ≤ 20) (hx : ∀ x ∈ l1, FLight x) (k : Nat) (hk : 2000 ≤ k) : config_Starts.f k l0 l1 a0 = some (startsL l0 l1 0 l1) := by
  have h := tstarts_l0 l0 l1 a0 hl hx l1.length k 0 [] (by omega) (by omega) (by omega) (by simp; omega)
  rw [show ((0 : Nat) : Int) = 0 from rfl, List.drop_zero, List.nil_append] at h
  exact h
theorem startsL_length (l0 : List Int) (l1 : List Fd) (hl : l1.length ≤ 20) (t : List Fd) : (∀ x ∈ t, FLight x) → ∀ g, (startsL l0 l1 g t).length ≤ 400 * t.length := by
  induction t with
  | nil => exact fun _ _ => Nat.le_refl _
  | cons x t ih =>
    intro h g
    have := ih (fun y hy => h y (List.mem_cons_of_mem _ hy)) (g + 1)
    have := spreadL_length l0 l1 g 0 0 hl x.f6 0
    have := (h x List.mem_cons_self).2.2.2.1
    simp only [startsL, List.length_append, List.length_cons]
    omega
/-! the same -/
theorem same8_l0 (l : List Ms) (hl : l.length ≤ 100000) (d : Nat) : ∀ (k p : Nat), p ≤ l.length → l.length - p = d → d < k → pacelinelaw08_same.l0 k l l (p : Int) = some true := by
  induction d with
  | zero =>
    intro k p h0 hd hk
    obtain ⟨k, rfl⟩ : ∃ m, k = m + 1 := ⟨k - 1, by omega⟩
    rw [pacelinelaw08_same.l0, if_neg (by omega)]
  | succ d ih =>
    intro k p h0 hd hk
    obtain ⟨k, rfl⟩ : ∃ m, k = m + 1 := ⟨k - 1, by omega⟩
    rw [pacelinelaw08_same.l0, if_pos (by omega), if_pos (by omega), if_pos (by omega), wrap64_id (by omega) (by omega), succ_cast, ih k (p + 1) (by omega) (by omega) (by omega)]
    simp
theorem same8 (l : List Ms) (hl : l.length ≤ 100000) (k : Nat) (hk : l.length < k) : pacelinelaw08_same.f k l l = some true := by
  unfold pacelinelaw08_same.f
  rw [if_pos rfl]
  exact same8_l0 l hl l.length k 0 (by omega) (by omega) hk

theorem tl_get (l1 : List Fd) (ks : List Bool) : ∀ n i, i < n → (ckTurnedL l1 ks n).getD i z42 = ckTurned ks i (l1.getD i z42)
  | 0, i, h => by omega
  | n + 1, i, h => by
    rw [ckTurnedL, List.getD_eq_getElem?_getD]
    by_cases e : i < n
    · rw [List.getElem?_append_left (by rw [ckTurnedL_len]; exact e), ← List.getD_eq_getElem?_getD]
      exact tl_get l1 ks n i e
    · obtain rfl : i = n := by omega
      rw [List.getElem?_append_right (by rw [ckTurnedL_len]; omega), ckTurnedL_len, Nat.sub_self]
      rfl
theorem tl_f5 (l1 : List Fd) (ks : List Bool) (g : Nat) : ((ckTurnedL l1 ks l1.length).getD g z42).f5 = (l1.getD g z42).f5 := by
  by_cases h : g < l1.length
  · rw [tl_get l1 ks _ g h]
    rfl
  · rw [List.getD_eq_getElem?_getD, List.getElem?_eq_none (by rw [ckTurnedL_len]; omega), List.getD_eq_getElem?_getD, List.getElem?_eq_none (by omega)]
theorem to_turned (l0 : List Int) (l1 : List Fd) (ks : List Bool) (f c : Int) : ∀ n, config_Routes.to l0 f c (ckTurnedL l1 ks l1.length) n = config_Routes.to l0 f c l1 n
  | 0 => rfl
  | n + 1 => by
    have e : config_Routes.hears l0 c ((ckTurnedL l1 ks l1.length).getD n z42) = config_Routes.hears l0 c (l1.getD n z42) := by
      unfold config_Routes.hears
      rw [tl_f5]
    rw [config_Routes.to, config_Routes.to, e, to_turned l0 l1 ks f c n]
theorem spread_turned (l0 : List Int) (l1 : List Fd) (ks : List Bool) (f now body : Int) (t : List Ou) : ∀ seq, spreadL l0 (ckTurnedL l1 ks l1.length) f now body seq t = spreadL l0 l1 f now body seq t := by
  induction t with
  | nil => exact fun _ => rfl
  | cons o t ih => exact fun seq => by rw [spreadL, spreadL, ckTurnedL_len, to_turned, ih]
theorem starts_turned (l0 : List Int) (l1 : List Fd) (ks : List Bool) : ∀ (t t' : List Fd), t'.map (fun x => x.f6) = t.map (fun x => x.f6) → ∀ g, startsL l0 (ckTurnedL l1 ks l1.length) g t' = startsL l0 l1 g t
  | [], [], _, _ => rfl
  | [], _ :: _, h, _ => by cases h
  | _ :: _, [], h, _ => by cases h
  | x :: t, x' :: t', h, g => by
    rw [List.map_cons, List.map_cons] at h
    injection h with h1 h2
    rw [startsL, startsL, spread_turned, starts_turned l0 l1 ks t t' h2, h1]
theorem feds_turned (most : Int) : ∀ (t t' : List Fd), t'.map (fun x => config_Check.fedE x most) = t.map (fun x => config_Check.fedE x most) → ∀ i, config_Check.fedsE most i t' = config_Check.fedsE most i t
  | [], [], _, _ => rfl
  | [], _ :: _, h, _ => by cases h
  | _ :: _, [], h, _ => by cases h
  | x :: t, x' :: t', h, i => by
    rw [List.map_cons, List.map_cons] at h
    injection h with h1 h2
    rw [config_Check.fedsE, config_Check.fedsE, feds_turned most t t' h2, h1]
theorem map_turned {β : Type} (p : Fd → β) (l1 : List Fd) (ks : List Bool) : ∀ n, n ≤ l1.length → (∀ i, i < n → p (ckTurned ks i (l1.getD i z42)) = p (l1.getD i z42)) → (ckTurnedL l1 ks n).map p = (l1.take n).map p
  | 0, _, _ => rfl
  | n + 1, hn, h => by
    rw [ckTurnedL, List.map_append, map_turned p l1 ks n (by omega) (fun i hi => h i (by omega)), List.take_succ_eq_append_getElem (by omega), List.map_append]
    congr 1
    show [p _] = [p _]
    rw [h n (by omega), List.getD_eq_getElem?_getD, List.getElem?_eq_getElem (by omega)]
    rfl
theorem map_all {β : Type} (p : Fd → β) (l1 : List Fd) (ks : List Bool) (h : ∀ i, i < l1.length → p (ckTurned ks i (l1.getD i z42)) = p (l1.getD i z42)) : (ckTurnedL l1 ks l1.length).map p = l1.map p := by
  have := map_turned p l1 ks l1.length (Nat.le_refl _) h
  rwa [List.take_length] at this
theorem fedE_turned (ks : List Bool) (i : Nat) (x : Fd) (most : Int) (h : ckFine x) : config_Check.fedE (ckTurned ks i x) most = config_Check.fedE x most := by
  have h1 : config_Check.wi (ckTurned ks i x).f0 0 1 = true := by
    show config_Check.wi (ckKind ks i) 0 1 = true
    unfold ckKind config_Check.wi
    split <;> decide
  have h2 : config_Check.wi x.f0 0 1 = true := by
    unfold config_Check.wi
    exact decide_eq_true (by rcases h with h | h <;> omega)
  unfold config_Check.fedE
  rw [h1, h2]
  rfl
theorem all_turned (l0 : List Int) (l1 : List Fd) (a0 : Int) (ks : List Bool) (h : ∀ i, i < l1.length → ckFine (l1.getD i z42)) : config_Check.all l0 (ckTurnedL l1 ks l1.length) a0 = config_Check.all l0 l1 a0 := by
  unfold config_Check.all
  rw [ckTurnedL_len, feds_turned (l0.length : Int) l1 (ckTurnedL l1 ks l1.length) (map_all _ l1 ks (fun i hi => fedE_turned ks i _ _ (h i hi)))]
theorem mem_turned {l1 : List Fd} {ks : List Bool} {x : Fd} (h : x ∈ ckTurnedL l1 ks l1.length) : ∃ i, i < l1.length ∧ x = ckTurned ks i (l1.getD i z42) := by
  obtain ⟨i, hi, rfl⟩ := List.mem_iff_getElem.mp h
  have hi' : i < l1.length := by rwa [ckTurnedL_len] at hi
  refine ⟨i, hi', ?_⟩
  rw [← tl_get l1 ks l1.length i hi', List.getD_eq_getElem?_getD, List.getElem?_eq_getElem hi]
  rfl
theorem getD_memF {l1 : List Fd} {i : Nat} (h : i < l1.length) : l1.getD i z42 ∈ l1 := by
  rw [List.getD_eq_getElem?_getD, List.getElem?_eq_getElem h]
  exact List.getElem_mem h
theorem ok_turned {l1 : List Fd} {ks : List Bool} (h : OkAll ok42 l1) : OkAll ok42 (ckTurnedL l1 ks l1.length) := by
  refine ⟨by rw [ckTurnedL_len]; exact h.1, fun x hx => ?_⟩
  obtain ⟨i, hi, rfl⟩ := mem_turned hx
  have := h.2 _ (getD_memF hi)
  refine ⟨?_, this.2⟩
  show (Lit.int .i64 (ckKind ks i)).wf = true
  unfold ckKind
  split <;> decide
theorem light_turned {l1 : List Fd} {ks : List Bool} (h : ∀ x ∈ l1, FLight x) : ∀ x ∈ ckTurnedL l1 ks l1.length, FLight x := fun x hx => by
  obtain ⟨i, hi, rfl⟩ := mem_turned hx
  have := h _ (getD_memF hi)
  exact this
theorem ConfigKinds : pacelinelaw08_ConfigKinds.Pure := by
  intro l0 l1 a0 ks h0 h1 w2 h3
  obtain ⟨K, hK⟩ : ∃ K : Nat, 200000 ≤ K := ⟨200000, Nat.le_refl _⟩
  refine ⟨K, ?_⟩
  unfold pacelinelaw08_ConfigKinds.f
  refine if_pos ?_
  unfold pacelinelaw08_ConfigKinds.P
  obtain ⟨b, hb, hl⟩ := heavy_told l0 l1 a0 K (by omega)
  cases b with
  | true => exact .inl hb
  | false =>
    obtain ⟨g0, g1, g2⟩ := hl rfl
    refine .inr ⟨hb, g1, fun hf => ⟨(config_Check.all l0 l1 a0).1, (config_Check.all l0 l1 a0).2, (config_Check.all l0 l1 a0).1, tcheck8 l0 l1 a0 h1, ?_, rcheck8 l0 l1 a0 g1 g2 K (by omega), fun _ => ⟨startsL l0 l1 0 l1, tstarts l0 l1 a0 g1 g2 K (by omega), ?_, ?_⟩⟩⟩
    · rw [tcheck8 l0 _ a0 (ok_turned h1), all_turned l0 l1 a0 ks hf]
    · rw [tstarts l0 _ a0 (by rw [ckTurnedL_len]; exact g1) (light_turned g2) K (by omega), starts_turned l0 l1 ks l1 _ (map_all (fun x => x.f6) l1 ks (fun _ _ => rfl))]
    · have := startsL_length l0 l1 g1 l1 g2 0
      exact same8 _ (by omega) K (by omega)

end Go.Proofs.Ytdlagficilbbbaa.Pure
