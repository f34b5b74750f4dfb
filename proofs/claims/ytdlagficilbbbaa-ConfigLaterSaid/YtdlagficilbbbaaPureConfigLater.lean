/- 'pacelinelaw08.ConfigLater': of whatever federation, rule and time: the law answers true. Conditions: none beyond the form's own reach. -/
import Derived.Test.YtdlagficilbbbaaPConfigLaterx
import Derived.OpenShut
import Derived.Test.YtdlagficilbbbaaTreeLib
set_option linter.unusedVariables false
set_option linter.unusedSimpArgs false
namespace Go.Proofs.Ytdlagficilbbbaa.Pure
open Go.RowKit Go.Proofs.Ytdlagficilbbbaa.PConfigLater Go.Proofs.YtdlagficilbbbaaR Go.Proofs.YtdlagficilbbbaaW.PrintWords Go.Proofs.YtdlagficilbbbaaW.PrintLast Go.Proofs.YtdlagficilbbbaaU Go.Proofs.YtdlagficilbbbaaI

theorem some_of_le {α : Type} {f : Nat → Option α} {v : α} {n : Nat} (h : ∀ k, n ≤ k → f k = some v) {k : Nat} (hk : n ≤ k) : f k = some v := h k hk
/-- From place i on all is as a tree's. -/
def okFrom (ps : List Int) (i : Int) : Prop := ∀ j : Nat, i ≤ (j : Int) → j < ps.length → -1 ≤ ps.getD j 0 ∧ ps.getD j 0 < (j : Int)
theorem rck_loop (ps : List Int) (h16 : ps.length ≤ 16) (d : Nat) : ∀ (k : Nat) (i : Int), 0 ≤ i → i ≤ (ps.length : Int) → (ps.length : Int) - i = d → d < k →
    ∃ r, pacelineref05_Check.l0 k ps i = some r ∧ (okFrom ps i → r = 0) ∧ (¬ okFrom ps i → r = 50) := by
  induction d with
  | zero =>
    intro k i h0 h1 hd hk
    obtain ⟨k, rfl⟩ : ∃ m, k = m + 1 := ⟨k - 1, by omega⟩
    exact ⟨0, by simp only [pacelineref05_Check.l0]; rw [if_neg (by omega)], fun _ => rfl, fun h => absurd (fun j hj hl => by omega) h⟩
  | succ d ih =>
    intro k i h0 h1 hd hk
    obtain ⟨k, rfl⟩ : ∃ m, k = m + 1 := ⟨k - 1, by omega⟩
    have hlt : i < (ps.length : Int) := by omega
    have hat : ∀ j : Nat, (j : Int) = i → ps.getD j 0 = rd ps i := fun j hj => by
      subst hj
      rfl
    simp only [pacelineref05_Check.l0]
    rw [if_pos hlt, if_pos h0]
    by_cases h2 : rd ps i < -1
    · exact ⟨50, by rw [if_pos h2], fun h => by have := h i.toNat (by omega) (by omega); rw [hat i.toNat (by omega)] at this; omega, fun _ => rfl⟩
    · rw [if_neg h2]
      by_cases h3 : rd ps i ≥ i
      · exact ⟨50, by rw [if_pos h3], fun h => by have := h i.toNat (by omega) (by omega); rw [hat i.toNat (by omega)] at this; omega, fun _ => rfl⟩
      · rw [if_neg h3, wrap64_id (by omega) (by omega)]
        obtain ⟨r, hr, ha, hb⟩ := ih k (i + 1) (by omega) (by omega) (by omega) (by omega)
        refine ⟨r, hr, fun h => ha (fun j hj hl => h j (by omega) hl), fun h => hb (fun h' => h (fun j hj hl => ?_))⟩
        by_cases e : (j : Int) = i
        · rw [hat j e]; omega
        · exact h' j (by omega) hl
theorem rck (ps : List Int) (k : Nat) (hk : 18 ≤ k) : pacelineref05_Check.f k ps = some (if treeB ps = true then 0 else 50) := by
  have hT := treeB_iff (ps := ps)
  obtain ⟨k, rfl⟩ : ∃ m, k = m + 1 := ⟨k - 1, by omega⟩
  unfold pacelineref05_Check.f
  by_cases h1 : (ps.length : Int) < 1
  · rw [if_pos h1, if_neg (fun h => by have := (hT.mp h).1; omega)]
    simp only [pacelineref05_Check.j0, if_true]
  · rw [if_neg h1]
    by_cases h2 : (ps.length : Int) > 16
    · rw [if_neg (fun h => by have := (hT.mp h).2.1; omega)]
      simp only [pacelineref05_Check.j0, decide_eq_true_eq]
      rw [if_pos h2]
    · simp only [pacelineref05_Check.j0, decide_eq_true_eq]
      rw [if_neg h2]
      obtain ⟨r, hr, ha, hb⟩ := rck_loop ps (by omega) ps.length k 0 (by omega) (by omega) (by omega) (by omega)
      rw [hr]
      by_cases ht : treeB ps = true
      · rw [if_pos ht, ha (fun j _ hl => (hT.mp ht).2.2 j hl)]
      · rw [if_neg ht, hb (fun h => ht (hT.mpr ⟨by omega, by omega, fun j hj => h j (by omega) hj⟩))]

theorem has_loop (xs : List Int) (b : Int) (hx : xs.length ≤ 100000) (d : Nat) : ∀ (k : Nat) (i : Int), 0 ≤ i → i ≤ (xs.length : Int) → (xs.length : Int) - i = d → d < k →
    pacelineref05_Has.l0 k xs b i = some (decide (b ∈ xs.drop i.toNat)) := by
  induction d with
  | zero =>
    intro k i h0 h1 hd hk
    obtain ⟨k, rfl⟩ : ∃ m, k = m + 1 := ⟨k - 1, by omega⟩
    simp only [pacelineref05_Has.l0]
    rw [if_neg (by omega), List.drop_eq_nil_of_le (by omega)]
    simp
  | succ d ih =>
    intro k i h0 h1 hd hk
    obtain ⟨k, rfl⟩ : ∃ m, k = m + 1 := ⟨k - 1, by omega⟩
    have hlt : i.toNat < xs.length := by omega
    have e : xs.drop i.toNat = rd xs i :: xs.drop (i.toNat + 1) := by
      rw [List.drop_eq_getElem_cons hlt]
      unfold rd
      rw [List.getD_eq_getElem?_getD, List.getElem?_eq_getElem hlt]
      rfl
    simp only [pacelineref05_Has.l0]
    rw [if_pos (by omega), if_pos h0, e]
    by_cases hb : rd xs i = b
    · rw [if_pos hb, decide_eq_true (by rw [hb]; exact List.mem_cons_self)]
    · rw [if_neg hb, wrap64_id (by omega) (by omega), ih k (i + 1) (by omega) (by omega) (by omega) (by omega), show (i + 1).toNat = i.toNat + 1 by omega]
      congr 1
      simp [List.mem_cons, Ne.symm hb]
theorem rhas (xs : List Int) (b : Int) (hx : xs.length ≤ 100000) (k : Nat) (hk : xs.length < k) : pacelineref05_Has.f k xs b = some (decide (b ∈ xs)) := by
  unfold pacelineref05_Has.f
  rw [has_loop xs b hx xs.length k 0 (by omega) (by omega) (by omega) hk]
  rfl

abbrev Rl := S44
abbrev Ou := S55
def findV (l : List Rl) (s c : Int) : Int := idx (fun r => r.f0 == s && r.f1 == c) l
theorem rdR_mem {l : List Rl} {i : Int} (h0 : 0 ≤ i) (h1 : i < (l.length : Int)) : rd_T44 l i ∈ l := by
  unfold rd_T44
  rw [List.getD_eq_getElem?_getD, List.getElem?_eq_getElem (show i.toNat < l.length by omega)]
  exact List.getElem_mem _
theorem dropR {l : List Rl} {i : Int} (h0 : 0 ≤ i) (h1 : i < (l.length : Int)) : l.drop i.toNat = rd_T44 l i :: l.drop (i.toNat + 1) := by
  have hlt : i.toNat < l.length := by omega
  rw [List.drop_eq_getElem_cons hlt]
  unfold rd_T44
  rw [List.getD_eq_getElem?_getD, List.getElem?_eq_getElem hlt]
  rfl
theorem findV_range (l : List Rl) (s c : Int) : -1 ≤ findV l s c ∧ findV l s c < (l.length : Int) := idx_range _ _
theorem rfind_loop (l : List Rl) (hl : l.length ≤ 60) (s c : Int) (d : Nat) : ∀ (k : Nat) (i : Int), 0 ≤ i → i ≤ (l.length : Int) → (l.length : Int) - i = d → d < k → (∀ x ∈ l.take i.toNat, (x.f0 == s && x.f1 == c) = false) →
    pacelineref07_Find.l0 k l s c i = some (findV l s c) := by
  induction d with
  | zero =>
    intro k i h0 h1 hd hk hno
    obtain ⟨k, rfl⟩ : ∃ m, k = m + 1 := ⟨k - 1, by omega⟩
    simp only [pacelineref07_Find.l0]
    rw [if_neg (by omega)]
    unfold findV
    rw [idx_none _ l (fun x hx => hno x (by rw [List.take_of_length_le (by omega)]; exact hx))]
  | succ d ih =>
    intro k i h0 h1 hd hk hno
    obtain ⟨k, rfl⟩ : ∃ m, k = m + 1 := ⟨k - 1, by omega⟩
    have hx : l[i.toNat]? = some (rd_T44 l i) := by
      unfold rd_T44
      rw [List.getD_eq_getElem?_getD, List.getElem?_eq_getElem (show i.toNat < l.length by omega)]
      rfl
    have hnext : (((rd_T44 l i).f0 == s && (rd_T44 l i).f1 == c) = false) → pacelineref07_Find.l0 k l s c (wrap64 (i + 1)) = some (findV l s c) := fun hq => by
      rw [wrap64_id (by omega) (by omega)]
      refine ih k (i + 1) (by omega) (by omega) (by omega) (by omega) ?_
      rw [show (i + 1).toNat = i.toNat + 1 by omega]
      exact take_all hno hx hq
    simp only [pacelineref07_Find.l0]
    rw [if_pos (by omega), if_pos h0]
    by_cases hs : (rd_T44 l i).f0 = s
    · rw [if_pos hs]
      by_cases hc : (rd_T44 l i).f1 = c
      · rw [if_pos hc]
        unfold findV
        rw [hit_at (k := i.toNat) hno hx (by simp [hs, hc])]
        congr 1
        omega
      · rw [if_neg hc]
        exact hnext (by simp [hc])
    · rw [if_neg hs]
      exact hnext (by simp [hs])
theorem rfind (l : List Rl) (hl : l.length ≤ 60) (s c : Int) (k : Nat) (hk : 61 ≤ k) : pacelineref07_Find.f k l s c = some (findV l s c) := by
  unfold pacelineref07_Find.f
  exact rfind_loop l hl s c l.length k 0 (by omega) (by omega) (by omega) (by omega) (fun x hx => by simp at hx)


def fineV (r : Rl) : Bool := table_Check.bel r.f0 8 && table_Check.bel r.f2 8 && table_Check.bel r.f1 16 && decide (r.f3.length ≤ 3) && !(r.f3.any table_Check.odd)
def checkV (l : List Rl) : Int := if 32 < l.length then 70 else table_Check.scan [] l
theorem bad_iff (l : List Rl) (r : Rl) : table_Check.bad l r = (table_Check.met l r.f0 r.f1 || !(fineV r)) := by
  unfold table_Check.bad fineV
  have : decide (3 < r.f3.length) = !(decide (r.f3.length ≤ 3)) := by
    rw [Bool.eq_iff_iff]; simp
  rw [this]
  cases table_Check.met l r.f0 r.f1 <;> cases table_Check.bel r.f0 8 <;> cases table_Check.bel r.f2 8 <;> cases table_Check.bel r.f1 16 <;> cases decide (r.f3.length ≤ 3) <;> cases r.f3.any table_Check.odd <;> rfl
theorem tcheck {l : List Rl} (h : OkAll ok44 l) : table_Check.f l = some (checkV l) := by
  unfold table_Check.f checkV
  rw [if_pos]
  refine List.all_eq_true.mpr fun r hr => ?_
  obtain ⟨w0, w1, w2, w3⟩ := h.2 r hr
  unfold table_Check.wfr
  rw [w0, w1, w2]
  simp only [Bool.and_true, Bool.true_and]
  refine List.all_eq_true.mpr fun o ho => ?_
  obtain ⟨v0, v1, v2⟩ := w3.2 o ho
  unfold table_Check.wfo
  rw [v0, v1, v2]
  rfl
theorem rin (a b : Int) : pacelineref07_in.f a b = some (table_Check.bel a b) := by
  unfold pacelineref07_in.f table_Check.bel
  by_cases h : 0 ≤ a
  · rw [if_pos h]
    simp [h]
  · rw [if_neg (by omega)]
    simp [h]
theorem dropO {l : List Ou} {i : Int} (h0 : 0 ≤ i) (h1 : i < (l.length : Int)) : l.drop i.toNat = rd_T55 l i :: l.drop (i.toNat + 1) := by
  have hlt : i.toNat < l.length := by omega
  rw [List.drop_eq_getElem_cons hlt]
  unfold rd_T55
  rw [List.getD_eq_getElem?_getD, List.getElem?_eq_getElem hlt]
  rfl
theorem fine_loop (l : List Ou) (hl : l.length ≤ 3) (a b c : Int) (d : Nat) : ∀ (k : Nat) (i : Int), 0 ≤ i → i ≤ (l.length : Int) → (l.length : Int) - i = d → d < k →
    pacelineref07_fine.l0 k i a b c l = some (!((l.drop i.toNat).any table_Check.odd)) := by
  induction d with
  | zero =>
    intro k i h0 h1 hd hk
    obtain ⟨k, rfl⟩ : ∃ m, k = m + 1 := ⟨k - 1, by omega⟩
    simp only [pacelineref07_fine.l0]
    rw [if_neg (by omega), List.drop_eq_nil_of_le (by omega)]
    rfl
  | succ d ih =>
    intro k i h0 h1 hd hk
    obtain ⟨k, rfl⟩ : ∃ m, k = m + 1 := ⟨k - 1, by omega⟩
    simp only [pacelineref07_fine.l0]
    rw [if_pos (by omega), if_pos h0, rin, rin, rin, dropO h0 (by omega), List.any_cons]
    simp only [Option.bind_some]
    have e : table_Check.odd (rd_T55 l i) = (!(table_Check.bel (rd_T55 l i).f0 16) || !(table_Check.bel (rd_T55 l i).f1 1048577) || !(table_Check.bel (rd_T55 l i).f2 1000)) := rfl
    rw [e]
    cases table_Check.bel (rd_T55 l i).f0 16 with
    | false => simp
    | true =>
      cases table_Check.bel (rd_T55 l i).f1 1048577 with
      | false => simp
      | true =>
        cases table_Check.bel (rd_T55 l i).f2 1000 with
        | false => simp
        | true =>
          rw [wrap64_id (by omega) (by omega)]
          simp only [if_true]
          rw [ih k (i + 1) (by omega) (by omega) (by omega) (by omega), show (i + 1).toNat = i.toNat + 1 by omega]
          simp
theorem rfine (r : Rl) (k : Nat) (hk : 8 ≤ k) : pacelineref07_fine.f k r.f0 r.f1 r.f2 r.f3 = some (fineV r) := by
  obtain ⟨k, rfl⟩ : ∃ m, k = m + 1 := ⟨k - 1, by omega⟩
  unfold pacelineref07_fine.f fineV
  rw [rin, rin, rin]
  simp only [Option.bind_some, pacelineref07_fine.j0]
  cases table_Check.bel r.f0 8 with
  | false => simp
  | true =>
    cases table_Check.bel r.f2 8 with
    | false => simp
    | true =>
      cases table_Check.bel r.f1 16 with
      | false => simp
      | true =>
        simp only [if_true]
        by_cases h : (r.f3.length : Int) > 3
        · rw [if_pos (decide_eq_true h)]
          have : decide (r.f3.length ≤ 3) = false := decide_eq_false (by omega)
          rw [this]
          simp
        · rw [if_neg (by simpa using h), fine_loop r.f3 (by omega) _ _ _ r.f3.length k 0 (by omega) (by omega) (by omega) (by omega)]
          have : decide (r.f3.length ≤ 3) = true := decide_eq_true (by omega)
          rw [this]
          simp
theorem idx_left {α : Type} (q : α → Bool) (l l' : List α) (h : 0 ≤ idx q l) : idx q (l ++ l') = idx q l := by
  induction l with
  | nil => simp [idx] at h
  | cons x l ih =>
    simp only [List.cons_append, idx] at h ⊢
    by_cases hq : q x = true
    · rw [if_pos hq, if_pos hq]
    · rw [if_neg hq] at h ⊢
      rw [if_neg hq]
      by_cases hi : idx q l < 0
      · rw [if_pos hi] at h
        omega
      · rw [ih (by omega)]
theorem find_met {l : List Rl} {k : Nat} {x : Rl} (hx : l[k]? = some x) : table_Check.met (l.take k) x.f0 x.f1 = !(decide (findV l x.f0 x.f1 = (k : Int))) := by
  obtain ⟨hk, hxe⟩ := List.getElem?_eq_some_iff.1 hx
  unfold table_Check.met findV
  cases hm : (l.take k).any (fun r => r.f0 == x.f0 && r.f1 == x.f1) with
  | false =>
    rw [hit_at (k := k) (fun y hy => by simpa using (List.any_eq_false.mp hm) y hy) hx (by simp)]
    simp
  | true =>
    have h0 : 0 ≤ idx (fun r : Rl => r.f0 == x.f0 && r.f1 == x.f1) (l.take k) := (idx_iff _ _).mpr hm
    have h1 := idx_left _ (l.take k) (l.drop k) h0
    rw [List.take_append_drop] at h1
    have h2 := (idx_range (fun r : Rl => r.f0 == x.f0 && r.f1 == x.f1) (l.take k)).2
    rw [List.length_take] at h2
    have : decide (idx (fun r : Rl => r.f0 == x.f0 && r.f1 == x.f1) l = (k : Int)) = false := decide_eq_false (by omega)
    rw [this]
    rfl
theorem rcheck_loop (l : List Rl) (hl : l.length ≤ 32) (d : Nat) : ∀ (k : Nat) (i : Int), 0 ≤ i → i ≤ (l.length : Int) → (l.length : Int) - i = d → d + 70 < k → table_Check.scan [] l = table_Check.scan (l.take i.toNat) (l.drop i.toNat) →
    pacelineref07_Check.l0 k l i = some (table_Check.scan [] l) := by
  induction d with
  | zero =>
    intro k i h0 h1 hd hk he
    obtain ⟨k, rfl⟩ : ∃ m, k = m + 1 := ⟨k - 1, by omega⟩
    simp only [pacelineref07_Check.l0]
    rw [if_neg (by omega), he, List.drop_eq_nil_of_le (by omega)]
    rfl
  | succ d ih =>
    intro k i h0 h1 hd hk he
    obtain ⟨k, rfl⟩ : ∃ m, k = m + 1 := ⟨k - 1, by omega⟩
    have hx : l[i.toNat]? = some (rd_T44 l i) := by
      unfold rd_T44
      rw [List.getD_eq_getElem?_getD, List.getElem?_eq_getElem (show i.toNat < l.length by omega)]
      rfl
    have hm := find_met hx
    have hb := bad_iff (l.take i.toNat) (rd_T44 l i)
    rw [hm] at hb
    simp only [pacelineref07_Check.l0]
    rw [if_pos (by omega), if_pos h0, rfine _ k (by omega)]
    simp only [Option.bind_some]
    cases hf : fineV (rd_T44 l i) with
    | false =>
      rw [hf] at hb
      rw [if_neg (by simp), table_Check.stop he hx (by rw [hb]; simp)]
    | true =>
      rw [if_pos rfl, rfind l (by omega) _ _ k (by omega)]
      simp only [Option.bind_some]
      by_cases hi : findV l (rd_T44 l i).f0 (rd_T44 l i).f1 = i
      · rw [if_pos hi, wrap64_id (by omega) (by omega)]
        refine ih k (i + 1) (by omega) (by omega) (by omega) (by omega) ?_
        rw [show (i + 1).toNat = i.toNat + 1 by omega]
        refine table_Check.more he hx ?_
        rw [hb, hf, decide_eq_true (by omega)]
        rfl
      · rw [if_neg hi, table_Check.stop he hx (by rw [hb, hf, decide_eq_false (by omega)]; rfl)]
theorem rcheck (l : List Rl) (k : Nat) (hk : 110 ≤ k) : pacelineref07_Check.f k l = some (checkV l) := by
  unfold pacelineref07_Check.f checkV
  by_cases h : 32 < l.length
  · rw [if_pos (by omega), if_pos h]
  · rw [if_neg (by omega), if_neg h]
    exact rcheck_loop l (by omega) l.length k 0 (by omega) (by omega) (by omega) (by omega) rfl
theorem scan_zero : ∀ (t l : List Rl), table_Check.scan l t = 0 → ∀ x ∈ t, fineV x = true
  | [], _, _ => fun x hx => by cases hx
  | r :: t, l, h => by
    rw [table_Check.scan] at h
    cases hb : table_Check.bad l r with
    | true => rw [hb] at h; simp at h
    | false =>
      rw [hb] at h
      simp only [Bool.false_eq_true, if_false] at h
      have hf : fineV r = true := by
        rw [bad_iff] at hb
        simp only [Bool.or_eq_false_iff, Bool.not_eq_false'] at hb
        exact hb.2
      intro x hx
      rcases List.mem_cons.mp hx with rfl | hx
      · exact hf
      · exact scan_zero t _ h x hx
theorem check_zero {l : List Rl} (h : checkV l = 0) : ∀ x ∈ l, fineV x = true := by
  unfold checkV at h
  split at h
  · cases h
  · exact scan_zero l [] h
theorem fine_facts {x : Rl} (h : fineV x = true) : 0 ≤ x.f0 ∧ x.f0 < 8 ∧ 0 ≤ x.f2 ∧ x.f2 < 8 ∧ 0 ≤ x.f1 ∧ x.f1 < 16 ∧ x.f3.length ≤ 3 := by
  unfold fineV table_Check.bel at h
  simp only [Bool.and_eq_true, decide_eq_true_eq] at h
  omega

/-! ### config: what the reference's check comes to -/
abbrev Fd := S42
def FLight (x : Fd) : Prop := x.f3.length ≤ 60 ∧ x.f4.length ≤ 50 ∧ x.f5.length ≤ 50 ∧ x.f6.length ≤ 20 ∧ ∀ r ∈ x.f3, r.f3.length ≤ 20
theorem rdF {l : List Fd} {p : Nat} (hp : p < l.length) : rd_T42 l (p : Int) = l[p] := by
  show l.getD p _ = l[p]
  rw [List.getD_eq_getElem?_getD, List.getElem?_eq_getElem hp]
  rfl
theorem rdR' {l : List Rl} {p : Nat} (hp : p < l.length) : rd_T44 l (p : Int) = l[p] := by
  show l.getD p _ = l[p]
  rw [List.getD_eq_getElem?_getD, List.getElem?_eq_getElem hp]
  rfl
theorem rdO' {l : List Ou} {p : Nat} (hp : p < l.length) : rd_T55 l (p : Int) = l[p] := by
  show l.getD p _ = l[p]
  rw [List.getD_eq_getElem?_getD, List.getElem?_eq_getElem hp]
  rfl
theorem rdI {l : List Int} {p : Nat} (hp : p < l.length) : rd l (p : Int) = l[p] := by
  show l.getD p _ = l[p]
  rw [List.getD_eq_getElem?_getD, List.getElem?_eq_getElem hp]
  rfl
theorem succ_cast (p : Nat) : (p : Int) + 1 = ((p + 1 : Nat) : Int) := by omega
/-! heavy -/
theorem heavy_l1 (l1 : List Fd) (l0 : List Int) (a0 : Int) (x : Fd) (hx : x.f3.length ≤ 60) (g : Nat) (d : Nat) : ∀ (k p : Nat), p ≤ x.f3.length → x.f3.length - p = d →
    ((∃ r ∈ x.f3.drop p, 20 < r.f3.length) ∧ pacelinelaw08_heavy.l1 (k + d + 1) (g : Int) (p : Int) l0 l1 a0 x.f0 x.f1 x.f2 x.f3 x.f4 x.f5 x.f6 = some true) ∨
    ((∀ r ∈ x.f3.drop p, r.f3.length ≤ 20) ∧ pacelinelaw08_heavy.l1 (k + d + 1) (g : Int) (p : Int) l0 l1 a0 x.f0 x.f1 x.f2 x.f3 x.f4 x.f5 x.f6 = pacelinelaw08_heavy.l0 k (wrap64 ((g : Int) + 1)) l0 l1 a0) := by
  induction d with
  | zero =>
    intro k p h0 hd
    refine .inr ⟨fun r hr => (by rw [List.drop_eq_nil_of_le (by omega)] at hr; exact absurd hr (by simp)), ?_⟩
    rw [Nat.add_zero, pacelinelaw08_heavy.l1, if_neg (by omega)]
  | succ d ih =>
    intro k p h0 hd
    have hp : p < x.f3.length := by omega
    obtain ⟨K, hK⟩ : ∃ K, K = k + d + 1 := ⟨_, rfl⟩
    have hI := ih k (p + 1) (by omega) (by omega)
    rw [← hK] at hI
    rw [show k + (d + 1) + 1 = K + 1 by omega, pacelinelaw08_heavy.l1, if_pos (by omega), if_pos (by omega), rdR' hp, List.drop_eq_getElem_cons hp, wrap64_id (x := (p : Int) + 1) (by omega) (by omega), succ_cast]
    by_cases h : ((x.f3[p].f3.length : Int)) > 20
    · rw [if_pos h]
      exact .inl ⟨⟨_, List.mem_cons_self, by omega⟩, rfl⟩
    · rw [if_neg h]
      rcases hI with ⟨⟨r, hr, hl⟩, e⟩ | ⟨hr, e⟩
      · exact .inl ⟨⟨r, List.mem_cons_of_mem _ hr, hl⟩, e⟩
      · refine .inr ⟨fun r hr' => ?_, e⟩
        rcases List.mem_cons.mp hr' with rfl | hr'
        · omega
        · exact hr r hr'
theorem heavy_l0 (l1 : List Fd) (l0 : List Int) (a0 : Int) (hl : l1.length ≤ 20) (d : Nat) : ∀ (k p : Nat), p ≤ l1.length → l1.length - p = d → 100 * d + 10 ≤ k →
    ∃ b, pacelinelaw08_heavy.l0 k (p : Int) l0 l1 a0 = some b ∧ (b = false → ∀ x ∈ l1.drop p, FLight x) := by
  induction d with
  | zero =>
    intro k p h0 hd hk
    obtain ⟨k, rfl⟩ : ∃ m, k = m + 1 := ⟨k - 1, by omega⟩
    exact ⟨false, by rw [pacelinelaw08_heavy.l0, if_neg (by omega)], fun _ x hx => by rw [List.drop_eq_nil_of_le (by omega)] at hx; cases hx⟩
  | succ d ih =>
    intro k p h0 hd hk
    have hp : p < l1.length := by omega
    obtain ⟨k, rfl⟩ : ∃ m, k = m + 2 := ⟨k - 2, by omega⟩
    rw [pacelinelaw08_heavy.l0, if_pos (by omega), if_pos (by omega), rdF hp, List.drop_eq_getElem_cons hp]
    generalize l1[p] = x
    have hj : ∀ b, b = true → pacelinelaw08_heavy.j2 (k + 1) (p : Int) b l0 l1 a0 x.f0 x.f1 x.f2 x.f3 x.f4 x.f5 x.f6 = some true := fun b hb => by rw [pacelinelaw08_heavy.j2, if_pos hb]
    by_cases h3 : ((x.f3.length : Int)) > 60
    · rw [if_pos h3]
      exact ⟨true, hj _ rfl, fun h => by cases h⟩
    · rw [if_neg h3]
      by_cases h4 : ((x.f4.length : Int)) > 50
      · rw [if_pos h4]
        exact ⟨true, hj _ rfl, fun h => by cases h⟩
      · rw [if_neg h4]
        by_cases h5 : ((x.f5.length : Int)) > 50
        · rw [if_pos h5]
          exact ⟨true, hj _ rfl, fun h => by cases h⟩
        · rw [if_neg h5]
          by_cases h6 : ((x.f6.length : Int)) > 20
          · exact ⟨true, hj _ (by simpa using h6), fun h => by cases h⟩
          · rw [pacelinelaw08_heavy.j2, if_neg (by simpa using h6)]
            obtain ⟨m, rfl⟩ : ∃ m, k = m + x.f3.length + 1 := ⟨k - x.f3.length - 1, by omega⟩
            rcases heavy_l1 l1 l0 a0 x (by omega) p x.f3.length m 0 (by omega) (by omega) with ⟨_, e⟩ | ⟨hr, e⟩
            · exact ⟨true, e, fun h => by cases h⟩
            · rw [show ((0 : Nat) : Int) = 0 from rfl] at e
              rw [e, wrap64_id (by omega) (by omega), succ_cast]
              obtain ⟨b, hb, hf⟩ := ih m (p + 1) (by omega) (by omega) (by omega)
              refine ⟨b, hb, fun h y hy => ?_⟩
              rcases List.mem_cons.mp hy with rfl | hy
              · exact ⟨by omega, by omega, by omega, by omega, fun r hr' => hr r (by simpa using hr')⟩
              · exact hf h y hy
theorem heavy_told (l0 : List Int) (l1 : List Fd) (a0 : Int) (k : Nat) (hk : 3000 ≤ k) : ∃ b, pacelinelaw08_heavy.f k l0 l1 a0 = some b ∧ (b = false → l0.length ≤ 50 ∧ l1.length ≤ 20 ∧ ∀ x ∈ l1, FLight x) := by
  obtain ⟨k, rfl⟩ : ∃ m, k = m + 1 := ⟨k - 1, by omega⟩
  unfold pacelinelaw08_heavy.f
  by_cases h0 : (l0.length : Int) > 50
  · rw [if_pos h0]
    exact ⟨true, by rw [pacelinelaw08_heavy.j0, if_pos rfl], fun h => by cases h⟩
  · rw [if_neg h0, pacelinelaw08_heavy.j0]
    by_cases h1 : (l1.length : Int) > 20
    · exact ⟨true, by rw [if_pos (by simpa using h1)], fun h => by cases h⟩
    · rw [if_neg (by simpa using h1)]
      obtain ⟨b, hb, hf⟩ := heavy_l0 l1 l0 a0 (by omega) l1.length k 0 (by omega) (by omega) (by omega)
      exact ⟨b, hb, fun h => ⟨by omega, by omega, fun x hx => hf h x (by simpa using hx)⟩⟩
/-! classes -/
theorem classes_loop (l : List Int) (most : Int) (hl : l.length ≤ 1000) (d : Nat) : ∀ (k p : Nat) (last : Int), p ≤ l.length → l.length - p = d → d < k → (p = 0 → last = -1) → (0 < p → 0 ≤ last ∧ last = l.getD (p - 1) 0) →
    pacelineref08_classes.l0 k l most (p : Int) = some (config_Check.rising most last (l.drop p)) := by
  induction d with
  | zero =>
    intro k p last h0 hd hk _ _
    obtain ⟨k, rfl⟩ : ∃ m, k = m + 1 := ⟨k - 1, by omega⟩
    rw [pacelineref08_classes.l0, if_neg (by omega), List.drop_eq_nil_of_le (by omega)]
    rfl
  | succ d ih =>
    intro k p last h0 hd hk hz hpz
    obtain ⟨k, rfl⟩ : ∃ m, k = m + 1 := ⟨k - 1, by omega⟩
    have hp : p < l.length := by omega
    rw [pacelineref08_classes.l0, if_pos (by omega), if_pos (by omega), rdI hp, List.drop_eq_getElem_cons hp, config_Check.rising]
    have hI := ih k (p + 1) l[p] (by omega) (by omega) (by omega) (fun h => by omega)
    have hg : l[p] = l.getD (p + 1 - 1) 0 := by
      rw [Nat.add_sub_cancel, List.getD_eq_getElem?_getD, List.getElem?_eq_getElem hp]
      rfl
    by_cases h1 : l[p] < 0
    · rw [if_pos h1, if_pos]
      by_cases hp0 : p = 0
      · have := hz hp0
        exact .inl (by omega)
      · have := (hpz (by omega)).1
        exact .inl (by omega)
    · rw [if_neg h1]
      by_cases h2 : l[p] ≥ most
      · rw [if_pos h2, if_pos (.inr h2)]
      · rw [if_neg h2]
        have hI' := hI (fun _ => ⟨by omega, hg⟩)
        by_cases hp0 : p = 0
        · have := hz hp0
          rw [if_neg (by omega), if_neg (fun h => h.elim (fun h => by omega) h2), wrap64_id (x := (p : Int) + 1) (by omega) (by omega), succ_cast]
          exact hI'
        · obtain ⟨q1, q2⟩ := hpz (by omega)
          rw [if_pos (by omega), wrap64_id (x := (p : Int) - 1) (by omega) (by omega), if_pos (by omega), if_pos (by omega), show (p : Int) - 1 = ((p - 1 : Nat) : Int) by omega, show rd l ((p - 1 : Nat) : Int) = l.getD (p - 1) 0 from rfl, ← q2]
          by_cases h3 : l[p] ≤ last
          · rw [if_pos h3, if_pos (.inl h3)]
          · rw [if_neg h3, if_neg (fun h => h.elim h3 h2), wrap64_id (x := (p : Int) + 1) (by omega) (by omega), succ_cast]
            exact hI'
theorem rclasses (l : List Int) (most : Int) (hl : l.length ≤ 1000) (k : Nat) (hk : l.length < k) : pacelineref08_classes.f k l most = some (config_Check.rising most (-1) l) := by
  unfold pacelineref08_classes.f
  exact classes_loop l most hl l.length k 0 (-1) (by omega) (by omega) hk (fun _ => rfl) (fun h => by omega)
/-! Fed -/
def initE (x : Fd) : Int := config_Check.un (decide (x.f6.length ≤ 4) && !(x.f6.any (config_Check.odd x.f4))) 82
theorem fed_l2 (x : Fd) (h4 : x.f4.length ≤ 50) (h6 : x.f6.length ≤ 4) (d : Nat) : ∀ (k p : Nat), p ≤ x.f6.length → x.f6.length - p = d → 60 + d ≤ k →
    pacelineref08_Fed.l2 k (p : Int) x.f0 x.f1 x.f2 x.f3 x.f4 x.f5 x.f6 = some (if (x.f6.drop p).any (config_Check.odd x.f4) = true then 82 else 0) := by
  induction d with
  | zero =>
    intro k p h0 hd hk
    obtain ⟨k, rfl⟩ : ∃ m, k = m + 1 := ⟨k - 1, by omega⟩
    rw [pacelineref08_Fed.l2, if_neg (by omega), List.drop_eq_nil_of_le (by omega)]
    rfl
  | succ d ih =>
    intro k p h0 hd hk
    obtain ⟨k, rfl⟩ : ∃ m, k = m + 1 := ⟨k - 1, by omega⟩
    have hp : p < x.f6.length := by omega
    have hI := ih k (p + 1) (by omega) (by omega) (by omega)
    rw [pacelineref08_Fed.l2, if_pos (by omega), if_pos (by omega), rdO' hp, List.drop_eq_getElem_cons hp, List.any_cons, rhas x.f4 _ (by omega) k (by omega), wrap64_id (by omega) (by omega), succ_cast, hI]
    generalize x.f6[p] = o
    simp only [Option.bind_some]
    have ho : config_Check.odd x.f4 o = (!(decide (o.f0 ∈ x.f4)) || !(decide (0 ≤ o.f1 ∧ o.f1 ≤ 1099511627776)) || !(decide (0 ≤ o.f2 ∧ o.f2 ≤ 999))) := rfl
    by_cases q0 : o.f0 ∈ x.f4
    · rw [if_pos (decide_eq_true q0)]
      by_cases q1 : o.f1 < 0
      · rw [if_pos q1, if_pos (by rw [ho, decide_eq_false (p := 0 ≤ o.f1 ∧ o.f1 ≤ 1099511627776) (by omega)]; simp)]
      · rw [if_neg q1]
        by_cases q2 : o.f1 > 1099511627776
        · rw [if_pos q2, if_pos (by rw [ho, decide_eq_false (p := 0 ≤ o.f1 ∧ o.f1 ≤ 1099511627776) (by omega)]; simp)]
        · rw [if_neg q2]
          by_cases q3 : o.f2 < 0
          · rw [if_pos q3, if_pos (by rw [ho, decide_eq_false (p := 0 ≤ o.f2 ∧ o.f2 ≤ 999) (by omega)]; simp)]
          · rw [if_neg q3]
            by_cases q4 : o.f2 ≥ 1000
            · rw [if_pos q4, if_pos (by rw [ho, decide_eq_false (p := 0 ≤ o.f2 ∧ o.f2 ≤ 999) (by omega)]; simp)]
            · rw [if_neg q4]
              have : config_Check.odd x.f4 o = false := by
                rw [ho, decide_eq_true q0, decide_eq_true (show 0 ≤ o.f1 ∧ o.f1 ≤ 1099511627776 by omega), decide_eq_true (show 0 ≤ o.f2 ∧ o.f2 ≤ 999 by omega)]
                rfl
              rw [this, Bool.false_or]
    · rw [if_neg (by simpa using q0), if_pos (by rw [ho, decide_eq_false q0]; simp)]
theorem fed_init (x : Fd) (h4 : x.f4.length ≤ 50) (k : Nat) (hk : 70 ≤ k) : (if (x.f6.length : Int) > 4 then some (82 : Int) else pacelineref08_Fed.l2 k 0 x.f0 x.f1 x.f2 x.f3 x.f4 x.f5 x.f6) = some (initE x) := by
  unfold initE config_Check.un
  by_cases h6 : (x.f6.length : Int) > 4
  · rw [if_pos h6, decide_eq_false (show ¬ x.f6.length ≤ 4 by omega)]
    simp
  · have := fed_l2 x h4 (by omega) x.f6.length k 0 (by omega) (by omega) (by omega)
    rw [show ((0 : Nat) : Int) = 0 from rfl, List.drop_zero] at this
    rw [if_neg h6, this, decide_eq_true (show x.f6.length ≤ 4 by omega)]
    cases x.f6.any (config_Check.odd x.f4) <;> simp
theorem sendE_eq (pubs : List Int) (look : Int) (o : Ou) : config_Check.sendE pubs look o = if o.f0 ∈ pubs then (if o.f1 < look then 80 else 0) else 81 := by
  unfold config_Check.sendE config_Check.un config_Check.has
  by_cases h : o.f0 ∈ pubs
  · by_cases h2 : look ≤ o.f1
    · have h3 : ¬ o.f1 < look := by omega
      simp [config_Check.firstE, h, h2, h3]
    · have h3 : o.f1 < look := by omega
      simp [config_Check.firstE, h, h2, h3]
  · simp [config_Check.firstE, h]
theorem fed_l1 (x : Fd) (most : Int) (h4 : x.f4.length ≤ 50) (p : Nat) (hp : p < x.f3.length) (h3 : x.f3.length ≤ 60) (hs : x.f3[p].f3.length ≤ 20) (d : Nat) : ∀ (k q : Nat), q ≤ x.f3[p].f3.length → x.f3[p].f3.length - q = d → 60 ≤ k →
    pacelineref08_Fed.l1 (k + d + 1) most (p : Int) (q : Int) x.f0 x.f1 x.f2 x.f3 x.f4 x.f5 x.f6 = if config_Check.sendsE x.f4 x.f1 (x.f3[p].f3.drop q) = 0 then pacelineref08_Fed.l0 k most (wrap64 ((p : Int) + 1)) x.f0 x.f1 x.f2 x.f3 x.f4 x.f5 x.f6 else some (config_Check.sendsE x.f4 x.f1 (x.f3[p].f3.drop q)) := by
  induction d with
  | zero =>
    intro k q h0 hd hk
    rw [Nat.add_zero, pacelineref08_Fed.l1, if_pos (by omega), if_pos (by omega), rdR' hp, if_neg (by omega), List.drop_eq_nil_of_le (by omega)]
    rfl
  | succ d ih =>
    intro k q h0 hd hk
    have hq : q < x.f3[p].f3.length := by omega
    have hI := ih k (q + 1) (by omega) (by omega) hk
    obtain ⟨K, hK⟩ : ∃ K, K = k + d + 1 := ⟨_, rfl⟩
    rw [← hK] at hI
    rw [show k + (d + 1) + 1 = K + 1 by omega, pacelineref08_Fed.l1, if_pos (by omega), if_pos (by omega), rdR' hp, if_pos (by omega), if_pos (by omega), rdO' hq, rhas x.f4 _ (by omega) K (by omega), wrap64_id (x := (q : Int) + 1) (by omega) (by omega), succ_cast q, hI, List.drop_eq_getElem_cons hq, config_Check.sendsE]
    simp only [Option.bind_some]
    rw [sendE_eq]
    generalize x.f3[p].f3[q] = o
    by_cases h : o.f0 ∈ x.f4
    · rw [if_pos (decide_eq_true h)]
      simp only [h, if_true]
      by_cases h2 : o.f1 < x.f1
      · simp [h2]
      · simp [h2]
    · rw [if_neg (by simpa using h)]
      simp [h]
theorem fed_l0 (x : Fd) (most : Int) (hx : FLight x) (d : Nat) : ∀ (k p : Nat), p ≤ x.f3.length → x.f3.length - p = d → 100 * d + 200 ≤ k →
    pacelineref08_Fed.l0 k most (p : Int) x.f0 x.f1 x.f2 x.f3 x.f4 x.f5 x.f6 = some (if config_Check.rulesE x.f4 x.f1 most (x.f3.drop p) = 0 then initE x else config_Check.rulesE x.f4 x.f1 most (x.f3.drop p)) := by
  obtain ⟨g3, g4, g5, g6, g7⟩ := hx
  induction d with
  | zero =>
    intro k p h0 hd hk
    obtain ⟨k, rfl⟩ : ∃ m, k = m + 1 := ⟨k - 1, by omega⟩
    rw [pacelineref08_Fed.l0, if_neg (by omega), List.drop_eq_nil_of_le (by omega), fed_init x g4 k (by omega)]
    rfl
  | succ d ih =>
    intro k p h0 hd hk
    have hp : p < x.f3.length := by omega
    have hs := g7 _ (List.getElem_mem hp)
    obtain ⟨k, rfl⟩ : ∃ m, k = (m + x.f3[p].f3.length + 1) + 1 := ⟨k - x.f3[p].f3.length - 2, by omega⟩
    have hI := ih k (p + 1) (by omega) (by omega) (by omega)
    have h1 := fed_l1 x most g4 p hp g3 hs x.f3[p].f3.length k 0 (by omega) (by omega) (by omega)
    rw [show ((0 : Nat) : Int) = 0 from rfl, List.drop_zero, wrap64_id (x := (p : Int) + 1) (by omega) (by omega), succ_cast, hI] at h1
    rw [pacelineref08_Fed.l0, if_pos (by omega), if_pos (by omega), h1, rdR' hp, List.drop_eq_getElem_cons hp, config_Check.rulesE]
    by_cases hm : x.f3[p].f1 ≥ most
    · rw [if_pos hm, if_pos (show most ≤ x.f3[p].f1 from hm)]
      rfl
    · rw [if_neg hm, if_neg (show ¬ most ≤ x.f3[p].f1 from hm)]
      by_cases hz : config_Check.sendsE x.f4 x.f1 x.f3[p].f3 = 0
      · rw [if_pos hz, if_pos hz]
      · rw [if_neg hz, if_neg hz, if_neg hz]
theorem firstE_un (b : Bool) (e : Int) (he : e ≠ 0) (l : List Int) : config_Check.firstE (config_Check.un b e :: l) = if b = true then config_Check.firstE l else e := by
  unfold config_Check.un
  cases b with
  | true => rw [config_Check.firstE]; simp
  | false => rw [config_Check.firstE]; simp [he]
theorem rfed (x : Fd) (most : Int) (hx : FLight x) (k : Nat) (hk : 8000 ≤ k) : pacelineref08_Fed.f k x.f0 x.f1 x.f2 x.f3 x.f4 x.f5 x.f6 most = some (config_Check.fedE x most) := by
  have hx' := hx
  obtain ⟨g3, g4, g5, g6, g7⟩ := hx'
  obtain ⟨k, rfl⟩ : ∃ m, k = m + 4 := ⟨k - 4, by omega⟩
  have hl := fed_l0 x most hx x.f3.length k 0 (by omega) (by omega) (by omega)
  rw [show ((0 : Nat) : Int) = 0 from rfl, List.drop_zero] at hl
  have e3 : pacelineref08_Fed.j3 (k + 1) most (!(config_Check.rising most (-1) x.f4 && config_Check.rising most (-1) x.f5)) x.f0 x.f1 x.f2 x.f3 x.f4 x.f5 x.f6 = some (if (config_Check.rising most (-1) x.f4 && config_Check.rising most (-1) x.f5) = true then (if config_Check.rulesE x.f4 x.f1 most x.f3 = 0 then initE x else config_Check.rulesE x.f4 x.f1 most x.f3) else 81) := by
    rw [pacelineref08_Fed.j3, hl]
    cases (config_Check.rising most (-1) x.f4 && config_Check.rising most (-1) x.f5) <;> simp
  have e2 : ∀ b, pacelineref08_Fed.j2 (k + 2) most b x.f0 x.f1 x.f2 x.f3 x.f4 x.f5 x.f6 = if b = true then some 70 else some (if (config_Check.rising most (-1) x.f4 && config_Check.rising most (-1) x.f5) = true then (if config_Check.rulesE x.f4 x.f1 most x.f3 = 0 then initE x else config_Check.rulesE x.f4 x.f1 most x.f3) else 81) := fun b => by
    rw [pacelineref08_Fed.j2, rclasses _ _ (by omega) (k + 1) (by omega), rclasses _ _ (by omega) (k + 1) (by omega), ← e3]
    simp only [Option.bind_some]
    cases b with
    | true => rfl
    | false =>
      simp only [Bool.false_eq_true, if_false]
      cases config_Check.rising most (-1) x.f4 <;> simp
  have hfed : config_Check.fedE x most = if config_Check.wi x.f0 0 1 = true then (if config_Check.wi x.f1 1 1048576 = true then (if config_Check.wi x.f2 0 7 = true then (if config_Check.tableE x.f3 = 0 then (if (config_Check.rising most (-1) x.f4 && config_Check.rising most (-1) x.f5) = true then (if config_Check.rulesE x.f4 x.f1 most x.f3 = 0 then initE x else config_Check.rulesE x.f4 x.f1 most x.f3) else 81) else config_Check.tableE x.f3) else 70) else 80) else 1 := by
    unfold config_Check.fedE
    rw [firstE_un _ 1 (by decide), firstE_un _ 80 (by decide), firstE_un _ 70 (by decide), config_Check.firstE, firstE_un _ 81 (by decide), config_Check.firstE]
    have hi : config_Check.firstE [config_Check.un (decide (x.f6.length ≤ 4) && !(x.f6.any (config_Check.odd x.f4))) 82] = initE x := by
      rw [firstE_un _ 82 (by decide)]
      rfl
    rw [hi]
  have ht : config_Check.tableE x.f3 = checkV x.f3 := rfl
  have ht70 : checkV x.f3 = 0 ∨ checkV x.f3 = 70 := by
    unfold checkV
    split
    · exact .inr rfl
    · have : ∀ (t l : List Rl), table_Check.scan l t = 0 ∨ table_Check.scan l t = 70 := by
        intro t
        induction t with
        | nil => exact fun l => .inl rfl
        | cons r t ih =>
          intro l
          rw [table_Check.scan]
          split
          · exact .inr rfl
          · exact ih _
      exact this _ _
  have w0 : config_Check.wi x.f0 0 1 = decide (0 ≤ x.f0 ∧ x.f0 ≤ 1) := rfl
  have w1 : config_Check.wi x.f1 1 1048576 = decide (1 ≤ x.f1 ∧ x.f1 ≤ 1048576) := rfl
  have w2 : config_Check.wi x.f2 0 7 = decide (0 ≤ x.f2 ∧ x.f2 ≤ 7) := rfl
  have e1 : ∀ b, pacelineref08_Fed.j1 (k + 3) most b x.f0 x.f1 x.f2 x.f3 x.f4 x.f5 x.f6 = if b = true then some 80 else some (if config_Check.wi x.f2 0 7 = true then (if config_Check.tableE x.f3 = 0 then (if (config_Check.rising most (-1) x.f4 && config_Check.rising most (-1) x.f5) = true then (if config_Check.rulesE x.f4 x.f1 most x.f3 = 0 then initE x else config_Check.rulesE x.f4 x.f1 most x.f3) else 81) else config_Check.tableE x.f3) else 70) := fun b => by
    rw [pacelineref08_Fed.j1, rcheck x.f3 (k + 2) (by omega), e2, w2]
    cases b with
    | true => rfl
    | false =>
      simp only [Bool.false_eq_true, if_false, Option.bind_some, if_true]
      by_cases q1 : x.f2 < 0
      · rw [if_pos q1, if_neg (fun h => by have := of_decide_eq_true h; omega)]
      · rw [if_neg q1]
        by_cases q2 : x.f2 ≥ 8
        · rw [if_pos q2, if_neg (fun h => by have := of_decide_eq_true h; omega)]
        · rw [if_neg q2, e2, ht, decide_eq_true (show 0 ≤ x.f2 ∧ x.f2 ≤ 7 by omega)]
          rcases ht70 with h | h
          · rw [h]
            simp
          · rw [h]
            simp
  have e0 : ∀ b, pacelineref08_Fed.j0 (k + 4) most b x.f0 x.f1 x.f2 x.f3 x.f4 x.f5 x.f6 = if b = true then some 1 else some (if config_Check.wi x.f1 1 1048576 = true then (if config_Check.wi x.f2 0 7 = true then (if config_Check.tableE x.f3 = 0 then (if (config_Check.rising most (-1) x.f4 && config_Check.rising most (-1) x.f5) = true then (if config_Check.rulesE x.f4 x.f1 most x.f3 = 0 then initE x else config_Check.rulesE x.f4 x.f1 most x.f3) else 81) else config_Check.tableE x.f3) else 70) else 80) := fun b => by
    rw [pacelineref08_Fed.j0, e1, e1, w1]
    cases b with
    | true => rfl
    | false =>
      simp only [Bool.false_eq_true, if_false, if_true]
      by_cases q1 : x.f1 < 1
      · rw [if_pos q1, if_neg (fun h => by have := of_decide_eq_true h; omega)]
      · rw [if_neg q1]
        by_cases q2 : x.f1 > 1048576
        · rw [if_pos (decide_eq_true q2), if_neg (fun h => by have := of_decide_eq_true h; omega)]
        · rw [if_neg (by simpa using q2), if_pos (decide_eq_true (by omega))]
  unfold pacelineref08_Fed.f
  rw [e0, e0, hfed, w0]
  by_cases q0 : x.f0 = 0
  · rw [if_pos q0, if_neg (by simp), if_pos (decide_eq_true (by omega))]
  · rw [if_neg q0]
    by_cases q1 : x.f0 = 1
    · rw [if_neg (by simp [q1]), if_pos (decide_eq_true (by omega))]
    · rw [if_pos (by simp [q1]), if_neg (fun h => by have := of_decide_eq_true h; omega)]
/-! Check -/
theorem check_l0 (l0 : List Int) (l1 : List Fd) (a0 : Int) (hl : l1.length ≤ 20) (hx : ∀ x ∈ l1, FLight x) (d : Nat) : ∀ (k p : Nat), p ≤ l1.length → l1.length - p = d → 8000 + d ≤ k →
    pacelineref08_Check.l0 k (p : Int) l0 l1 a0 = some (config_Check.fedsE (l0.length : Int) (p : Int) (l1.drop p)) := by
  induction d with
  | zero =>
    intro k p h0 hd hk
    obtain ⟨k, rfl⟩ : ∃ m, k = m + 1 := ⟨k - 1, by omega⟩
    rw [pacelineref08_Check.l0, if_neg (by omega), List.drop_eq_nil_of_le (by omega)]
    rfl
  | succ d ih =>
    intro k p h0 hd hk
    obtain ⟨k, rfl⟩ : ∃ m, k = m + 1 := ⟨k - 1, by omega⟩
    have hp : p < l1.length := by omega
    have hI := ih k (p + 1) (by omega) (by omega) (by omega)
    rw [pacelineref08_Check.l0, if_pos (by omega), if_pos (by omega), rdF hp, rfed l1[p] _ (hx _ (List.getElem_mem hp)) k (by omega), wrap64_id (by omega) (by omega), succ_cast, hI, List.drop_eq_getElem_cons hp, config_Check.fedsE]
    simp only [Option.bind_some]
    rw [succ_cast]
    by_cases hz : config_Check.fedE l1[p] (l0.length : Int) = 0
    · rw [if_pos hz, if_pos hz]
    · rw [if_neg hz, if_neg hz]
theorem rcheck8 (l0 : List Int) (l1 : List Fd) (a0 : Int) (hl : l1.length ≤ 20) (hx : ∀ x ∈ l1, FLight x) (k : Nat) (hk : 9000 ≤ k) : pacelineref08_Check.f k l0 l1 a0 = some (config_Check.all l0 l1 a0) := by
  obtain ⟨k, rfl⟩ : ∃ m, k = m + 1 := ⟨k - 1, by omega⟩
  have hc := check_l0 l0 l1 a0 hl hx l1.length k 0 (by omega) (by omega) (by omega)
  rw [show ((0 : Nat) : Int) = 0 from rfl, List.drop_zero] at hc
  unfold pacelineref08_Check.f config_Check.all
  rw [rck l0 (k + 1) (by omega)]
  simp only [Option.bind_some]
  have hj : ∀ b, pacelineref08_Check.j0 (k + 1) b l0 l1 a0 = if b = true then some ((-1), 1) else some (config_Check.fedsE (l0.length : Int) 0 l1) := fun b => by
    rw [pacelineref08_Check.j0, hc]
  by_cases ht : treeB l0 = true
  · rw [if_pos ht, if_pos rfl, hj, hj]
    have hf : config_Check.firstE [0, config_Check.un (config_Check.wi a0 0 1099511627776 && config_Check.wi (l1.length : Int) 1 8) 1] = if (config_Check.wi a0 0 1099511627776 && config_Check.wi (l1.length : Int) 1 8) = true then 0 else 1 := by
      rw [config_Check.firstE, if_pos rfl, firstE_un _ 1 (by decide)]
      rfl
    rw [hf]
    unfold config_Check.wi
    by_cases q1 : a0 < 0
    · rw [if_pos q1, decide_eq_false (show ¬ (0 ≤ a0 ∧ a0 ≤ 1099511627776) by omega)]
      simp
    · rw [if_neg q1]
      by_cases q2 : a0 > 1099511627776
      · rw [if_pos q2, decide_eq_false (show ¬ (0 ≤ a0 ∧ a0 ≤ 1099511627776) by omega)]
        simp
      · rw [if_neg q2, decide_eq_true (show 0 ≤ a0 ∧ a0 ≤ 1099511627776 by omega)]
        by_cases q3 : (l1.length : Int) < 1
        · rw [if_pos q3, decide_eq_false (show ¬ (1 ≤ (l1.length : Int) ∧ (l1.length : Int) ≤ 8) by omega)]
          simp
        · rw [if_neg q3]
          by_cases q4 : (l1.length : Int) > 8
          · rw [decide_eq_true q4, decide_eq_false (show ¬ (1 ≤ (l1.length : Int) ∧ (l1.length : Int) ≤ 8) by omega)]
            simp
          · rw [decide_eq_false q4, decide_eq_true (show 1 ≤ (l1.length : Int) ∧ (l1.length : Int) ≤ 8 by omega)]
            simp
  · rw [if_neg ht, if_neg (by omega)]
    have hf : ∀ e, config_Check.firstE [50, e] = 50 := fun e => by rw [config_Check.firstE, if_neg (by decide)]
    rw [hf, if_neg (by decide)]
theorem wfr_all {l : List Rl} (h : OkAll ok44 l) : l.all table_Check.wfr = true := by
  have := tcheck h
  unfold table_Check.f at this
  split at this
  · assumption
  · cases this
theorem tcheck8 (l0 : List Int) (l1 : List Fd) (a0 : Int) (h : OkAll ok42 l1) : config_Check.f l0 l1 a0 = some (config_Check.all l0 l1 a0) := by
  unfold config_Check.f
  rw [if_pos]
  exact List.all_eq_true.mpr fun x hx => wfr_all (h.2 x hx).2.2.2.1

theorem rabove_loop {ps : List Int} (ht : Tree ps) : ∀ a, a < (ps.length : Int) → ∀ (k : Nat) (acc : List Int), (a + 1).toNat < k → acc.length + (a + 1).toNat ≤ 100 →
    pacelineref05_Above.l0 k ps a acc = some (acc ++ upL ps a) := by
  refine up_induct ht (p := fun a => ∀ (k : Nat) (acc : List Int), (a + 1).toNat < k → acc.length + (a + 1).toNat ≤ 100 → pacelineref05_Above.l0 k ps a acc = some (acc ++ upL ps a)) ?_ ?_
  · intro a ha k acc hk hl
    obtain ⟨k, rfl⟩ : ∃ m, k = m + 1 := ⟨k - 1, by omega⟩
    simp only [pacelineref05_Above.l0]
    rw [if_neg (by omega), upL_neg ha, List.append_nil]
  · intro a h0 h1 ih k acc hk hl
    have hr := tree_rd ht h0 h1
    obtain ⟨k, rfl⟩ : ∃ m, k = m + 1 := ⟨k - 1, by omega⟩
    simp only [pacelineref05_Above.l0]
    rw [if_pos (by omega), if_pos (by omega), if_pos h0, if_pos h1, ih k _ (by omega) (by simp; omega), upL_step ht h0 h1]
    simp
theorem rabove (ps : List Int) (a : Int) (k : Nat) (hk : 20 ≤ k) : pacelineref05_Above.f k ps a = some (upL ps a) := by
  unfold pacelineref05_Above.f
  rw [rck ps k (by omega)]
  obtain ⟨k, rfl⟩ : ∃ m, k = m + 1 := ⟨k - 1, by omega⟩
  simp only [Option.bind_some]
  by_cases ht : treeB ps = true
  · have hT := treeB_iff.mp ht
    have := hT.2.1
    rw [if_pos ht, if_pos rfl]
    by_cases ha : a < 0
    · rw [if_pos ha, upL_neg ha]
      simp only [pacelineref05_Above.j0, if_true]
    · rw [if_neg ha]
      simp only [pacelineref05_Above.j0, decide_eq_true_eq]
      by_cases hl : a ≥ (ps.length : Int)
      · rw [if_pos hl, upL_out hl]
      · rw [if_neg hl, rabove_loop hT a (by omega) k [] (by omega) (by simp; omega)]
        simp
  · rw [if_neg ht, if_neg (by omega), upL_odd (fun h => ht (treeB_iff.mpr h))]
    simp only [pacelineref05_Above.j0, if_true]

/-! ### config: whom a message goes to -/
theorem rr_l1 (l0 : List Int) (l1 : List Fd) (a0 f : Int) (L acc : List Int) (hL : L.length ≤ 16) (ha : acc.length ≤ 20) (hl : l1.length ≤ 20) (g : Nat) (hg : g < l1.length) (h5 : l1[g].f5.length ≤ 50) (d : Nat) :
    ∀ (k p : Nat) (b : Bool), p ≤ L.length → L.length - p = d → 60 ≤ k →
    pacelineref08_Routes.l1 (k + d + 1) f L acc (g : Int) b (p : Int) l0 l1 a0 = pacelineref08_Routes.l0 k f L (if (g : Int) = f then acc else if (b || (L.drop p).any (fun u => decide (u ∈ l1[g].f5))) = true then acc ++ [(g : Int)] else acc) ((g + 1 : Nat) : Int) l0 l1 a0 := by
  induction d with
  | zero =>
    intro k p b h0 hd hk
    rw [Nat.add_zero, pacelineref08_Routes.l1, if_neg (by omega), List.drop_eq_nil_of_le (by omega), wrap64_id (by omega) (by omega), succ_cast]
    by_cases hf : (g : Int) = f
    · rw [if_pos hf, if_pos hf]
    · rw [if_neg hf, if_neg hf]
      cases b with
      | true => rw [if_pos rfl, if_pos (by omega), if_pos (by simp)]
      | false => rw [if_neg (by simp), if_neg (by simp)]
  | succ d ih =>
    intro k p b h0 hd hk
    have hp : p < L.length := by omega
    obtain ⟨K, hK⟩ : ∃ K, K = k + d + 1 := ⟨_, rfl⟩
    have hI := fun b => ih k (p + 1) b (by omega) (by omega) hk
    rw [← hK] at hI
    rw [show k + (d + 1) + 1 = K + 1 by omega, pacelineref08_Routes.l1, if_pos (by omega), wrap64_id (x := (p : Int) + 1) (by omega) (by omega), succ_cast p, hI, List.drop_eq_getElem_cons hp, List.any_cons]
    cases b with
    | true => rw [if_pos rfl, Bool.true_or, Bool.true_or]
    | false =>
      rw [if_neg (by simp), if_pos (by omega), if_pos (by omega), if_pos (by omega), rdF hg, rdI hp, rhas _ _ (by omega) K (by omega)]
      simp only [Option.bind_some]
      rw [hI, Bool.false_or]
theorem hears_swap (ps : List Int) (c : Int) (x : Fd) : config_Routes.hears ps c x = (upL ps c).any (fun u => decide (u ∈ x.f5)) := by
  rw [Bool.eq_iff_iff]
  unfold config_Routes.hears config_Routes.isA
  simp only [List.any_eq_true, decide_eq_true_eq]
  exact ⟨fun ⟨x, a, b⟩ => ⟨x, b, a⟩, fun ⟨x, a, b⟩ => ⟨x, b, a⟩⟩
theorem rr_l0 (l0 : List Int) (l1 : List Fd) (a0 f c : Int) (hl : l1.length ≤ 20) (hx : ∀ x ∈ l1, FLight x) (d : Nat) : ∀ (k g : Nat), g ≤ l1.length → l1.length - g = d → 100 * d + 100 ≤ k →
    pacelineref08_Routes.l0 k f (upL l0 c) (config_Routes.to l0 f c l1 g) (g : Int) l0 l1 a0 = some (config_Routes.to l0 f c l1 l1.length) := by
  have hL := upL_length l0 c
  induction d with
  | zero =>
    intro k g h0 hd hk
    obtain ⟨k, rfl⟩ : ∃ m, k = m + 1 := ⟨k - 1, by omega⟩
    obtain rfl : g = l1.length := by omega
    rw [pacelineref08_Routes.l0, if_neg (by omega)]
  | succ d ih =>
    intro k g h0 hd hk
    have hg : g < l1.length := by omega
    have ha := config_Routes.to_length l0 f c l1 g
    obtain ⟨k, rfl⟩ : ∃ m, k = (m + (upL l0 c).length + 1) + 1 := ⟨k - (upL l0 c).length - 2, by omega⟩
    have h1 := rr_l1 l0 l1 a0 f (upL l0 c) (config_Routes.to l0 f c l1 g) hL (by omega) hl g hg (hx _ (List.getElem_mem hg)).2.2.1 (upL l0 c).length k 0 false (by omega) (by omega) (by omega)
    rw [show ((0 : Nat) : Int) = 0 from rfl, List.drop_zero, Bool.false_or] at h1
    rw [pacelineref08_Routes.l0, if_pos (by omega), h1, ← ih k (g + 1) (by omega) (by omega) (by omega), config_Routes.to]
    have hgd : l1.getD g z42 = l1[g] := by
      rw [List.getD_eq_getElem?_getD, List.getElem?_eq_getElem hg]
      rfl
    rw [hgd, hears_swap]
    congr 1
    by_cases hf : (g : Int) = f
    · rw [if_pos hf, if_neg (by simp [hf])]
    · rw [if_neg hf, beq_false_of_ne hf, Bool.not_false, Bool.true_and]
theorem rroutes (l0 : List Int) (l1 : List Fd) (a0 f c : Int) (hl : l1.length ≤ 20) (hx : ∀ x ∈ l1, FLight x) (k : Nat) (hk : 3000 ≤ k) : pacelineref08_Routes.f k l0 l1 a0 f c = some (config_Routes.to l0 f c l1 l1.length) := by
  unfold pacelineref08_Routes.f
  rw [rabove l0 c k (by omega)]
  exact rr_l0 l0 l1 a0 f c hl hx l1.length k 0 (by omega) (by omega) (by omega)
theorem troutes (l0 : List Int) (l1 : List Fd) (a0 f c : Int) (hl : l1.length ≤ 20) : config_Routes.f l0 l1 a0 f c = some (config_Routes.to l0 f c l1 l1.length) := by
  unfold config_Routes.f
  rw [if_pos (by omega)]

/-! ### config: what is sent -/
abbrev Ms := S48
def cl (a : Int) : Int := if a < 0 then 0 else if a > 1099511627776 then 1125899906842624 else a
theorem cl_range (a : Int) : 0 ≤ cl a ∧ cl a ≤ 1125899906842624 := by unfold cl; split <;> (try split) <;> omega
theorem clamp_eq (a : Int) : vtime_clamp.f a = some (cl a) := by unfold vtime_clamp.f cl; split <;> (try split) <;> rfl
theorem add_eq (a d : Int) : vtime_Add.f a d = some (cl (cl a + cl d)) := by
  unfold vtime_Add.f
  have := cl_range a; have := cl_range d
  simp only [clamp_eq, Option.bind_some]
  rw [wrap64_id (by omega) (by omega)]
theorem tmod_split (a : Int) : (0 ≤ a ∧ Int.tmod a 1000 = a % 1000) ∨ (a < 0 ∧ Int.tmod a 1000 = -((-a) % 1000)) := by
  rcases Int.lt_or_le a 0 with h | h
  · right
    refine ⟨h, ?_⟩
    have : Int.tmod (-(-a)) 1000 = -Int.tmod (-a) 1000 := Int.neg_tmod ..
    rw [Int.neg_neg] at this
    rw [this, Int.tmod_eq_emod_of_nonneg (by omega)]
  · exact .inl ⟨h, Int.tmod_eq_emod_of_nonneg h⟩
theorem modulo_eq (a : Int) : table_modulo.f a = some (a % 1000) := by
  unfold table_modulo.f
  rcases tmod_split a with ⟨h, e⟩ | ⟨h, e⟩ <;> rw [e]
  · rw [if_neg (by omega)]
  · split
    · rw [wrap64_id (by omega) (by omega)]; congr 1; omega
    · congr 1; omega
theorem sent_eq (from_ seq now body c d e : Int) : table_Sent.f from_ seq now body c d e = some (cl (cl now + cl d), from_, seq, -1, c, (body % 1000 + e % 1000) % 1000) := by
  unfold table_Sent.f
  simp only [add_eq, modulo_eq, Option.bind_some]
  rw [wrap64_id (by omega) (by omega)]

/-! ### config: the messages of a send -/
def msgs (f seq now body : Int) (o : Ou) (tos : List Int) : List Ms := tos.map fun t => ⟨⟨cl (cl now + cl o.f1), f, seq⟩, t, o.f0, (body % 1000 + o.f2 % 1000) % 1000⟩
def spreadL (l0 : List Int) (l1 : List Fd) (f now body : Int) : Int → List Ou → List Ms
  | _, [] => []
  | seq, o :: t => msgs f (wrap64 seq) now body o (config_Routes.to l0 f o.f0 l1 l1.length) ++ spreadL l0 l1 f now body (seq + 1) t
theorem spreadL_length (l0 : List Int) (l1 : List Fd) (f now body : Int) (hl : l1.length ≤ 20) (t : List Ou) : ∀ seq, (spreadL l0 l1 f now body seq t).length ≤ 20 * t.length := by
  induction t with
  | nil => exact fun _ => Nat.le_refl _
  | cons o t ih =>
    intro seq
    have := ih (seq + 1)
    have := config_Routes.to_length l0 f o.f0 l1 l1.length
    simp only [spreadL, msgs, List.length_append, List.length_map, List.length_cons]
    omega
theorem tspread_l1 (l0 : List Int) (l1 : List Fd) (a0 f seq now body : Int) (l5 : List Ou) (n i : Int) (tos : List Int) (ht : tos.length ≤ 20) (q0 q1 q2 q4 q5 : Int) (d : Nat) : ∀ (k p : Nat) (acc : List Ms) (q3 : Int), p ≤ tos.length → tos.length - p = d → acc.length + d ≤ 1000000 →
    config_Spread.l1 (k + d + 1) f seq now body acc l5 n i tos (tos.length : Int) (p : Int) l0 l1 a0 q0 q1 q2 q3 q4 q5 = config_Spread.l0 k f seq now body (acc ++ (tos.drop p).map fun t => (⟨⟨q0, q1, q2⟩, t, q4, q5⟩ : Ms)) l5 n (wrap64 (i + 1)) l0 l1 a0 := by
  induction d with
  | zero =>
    intro k p acc q3 h0 hd ha
    rw [Nat.add_zero, config_Spread.l1, if_neg (by omega), List.drop_eq_nil_of_le (by omega), List.map_nil, List.append_nil]
  | succ d ih =>
    intro k p acc q3 h0 hd ha
    have hp : p < tos.length := by omega
    rw [show k + (d + 1) + 1 = (k + d + 1) + 1 by omega, config_Spread.l1, if_pos (by omega), if_pos (by omega), if_pos (by omega), if_pos (by omega), wrap64_id (x := (p : Int) + 1) (by omega) (by omega), succ_cast, rdI hp,
      ih k (p + 1) _ _ (by omega) (by omega) (by simp; omega), List.drop_eq_getElem_cons hp, List.map_cons, List.append_assoc, List.singleton_append]
theorem tspread_l0 (l0 : List Int) (l1 : List Fd) (a0 f seq now body : Int) (hl : l1.length ≤ 20) (l5 : List Ou) (h5 : l5.length ≤ 20) (d : Nat) : ∀ (k i : Nat) (acc : List Ms), i ≤ l5.length → l5.length - i = d → 30 * d + 10 ≤ k → acc.length + 20 * d ≤ 1000000 →
    config_Spread.l0 k f seq now body acc l5 (l5.length : Int) (i : Int) l0 l1 a0 = some (acc ++ spreadL l0 l1 f now body (seq + i) (l5.drop i)) := by
  induction d with
  | zero =>
    intro k i acc h0 hd hk ha
    obtain ⟨k, rfl⟩ : ∃ m, k = m + 1 := ⟨k - 1, by omega⟩
    rw [config_Spread.l0, if_neg (by omega), List.drop_eq_nil_of_le (by omega), spreadL, List.append_nil]
  | succ d ih =>
    intro k i acc h0 hd hk ha
    have hi : i < l5.length := by omega
    have hto := config_Routes.to_length l0 f l5[i].f0 l1 l1.length
    obtain ⟨k, rfl⟩ : ∃ m, k = (m + (config_Routes.to l0 f l5[i].f0 l1 l1.length).length + 1) + 1 := ⟨k - (config_Routes.to l0 f l5[i].f0 l1 l1.length).length - 2, by omega⟩
    rw [config_Spread.l0, if_pos (by omega), if_pos (by omega), if_pos (by omega), rdO' hi, sent_eq]
    simp only [Option.bind_some]
    rw [troutes l0 l1 a0 f _ hl]
    simp only [Option.bind_some]
    have h1 := tspread_l1 l0 l1 a0 f seq now body l5 (l5.length : Int) (i : Int) (config_Routes.to l0 f l5[i].f0 l1 l1.length) (by omega) (cl (cl now + cl l5[i].f1)) f (wrap64 (seq + i)) l5[i].f0 ((body % 1000 + l5[i].f2 % 1000) % 1000) (config_Routes.to l0 f l5[i].f0 l1 l1.length).length k 0 acc (-1) (by omega) (by omega) (by omega)
    rw [show ((0 : Nat) : Int) = 0 from rfl, List.drop_zero] at h1
    rw [h1, wrap64_id (x := (i : Int) + 1) (by omega) (by omega), succ_cast, ih k (i + 1) _ (by omega) (by omega) (by omega) (by simp; omega), List.drop_eq_getElem_cons hi, spreadL, List.append_assoc, show seq + ((i + 1 : Nat) : Int) = seq + i + 1 by omega]
    rfl
theorem tspread (l0 : List Int) (l1 : List Fd) (a0 f seq now body : Int) (hl : l1.length ≤ 20) (l5 : List Ou) (h5 : l5.length ≤ 20) (k : Nat) (hk : 1000 ≤ k) : config_Spread.f k l0 l1 a0 f seq now body l5 = some (spreadL l0 l1 f now body seq l5) := by
  have h := tspread_l0 l0 l1 a0 f seq now body hl l5 h5 l5.length k 0 [] (by omega) (by omega) (by omega) (by simp; omega)
  rw [show ((0 : Nat) : Int) = 0 from rfl, List.drop_zero, Int.add_zero, List.nil_append] at h
  exact h
theorem rdM {l : List Ms} {p : Nat} (hp : p < l.length) : rd_T48 l (p : Int) = l[p] := by
  show l.getD p _ = l[p]
  rw [List.getD_eq_getElem?_getD, List.getElem?_eq_getElem hp]
  rfl

theorem all_zero {l0 : List Int} {l1 : List Fd} {a0 : Int} (h : (config_Check.all l0 l1 a0).2 = 0) : treeB l0 = true ∧ 1 ≤ l1.length ∧ l1.length ≤ 8 ∧ (config_Check.fedsE (l0.length : Int) 0 l1).2 = 0 := by
  unfold config_Check.all at h
  by_cases ht : treeB l0 = true
  · rw [if_pos ht, config_Check.firstE, if_pos rfl, firstE_un _ 1 (by decide)] at h
    by_cases hb : (config_Check.wi a0 0 1099511627776 && config_Check.wi (l1.length : Int) 1 8) = true
    · rw [if_pos hb, config_Check.firstE, if_pos rfl] at h
      unfold config_Check.wi at hb
      simp only [Bool.and_eq_true, decide_eq_true_eq] at hb
      exact ⟨ht, by omega, by omega, h⟩
    · rw [if_neg hb, if_neg (by decide)] at h
      exact absurd h (by decide)
  · have hf : ∀ e, config_Check.firstE [50, e] = 50 := fun e => by rw [config_Check.firstE, if_neg (by decide)]
    rw [if_neg ht, hf, if_neg (by decide)] at h
    exact absurd h (by decide)

theorem firstE_zero : ∀ {l : List Int}, config_Check.firstE l = 0 → ∀ e ∈ l, e = 0
  | [], _, e, he => by cases he
  | a :: l, h, e, he => by
    rw [config_Check.firstE] at h
    by_cases h0 : a = 0
    · rw [if_pos h0] at h
      rcases List.mem_cons.mp he with rfl | he
      · exact h0
      · exact firstE_zero h e he
    · rw [if_neg h0] at h
      exact absurd h h0
theorem fedsE_zero (most : Int) : ∀ (l : List Fd) (i : Int), (config_Check.fedsE most i l).2 = 0 → ∀ x ∈ l, config_Check.fedE x most = 0
  | [], _, _, x, hx => by cases hx
  | a :: l, i, h, x, hx => by
    rw [config_Check.fedsE] at h
    by_cases h0 : config_Check.fedE a most = 0
    · rw [if_pos h0] at h
      rcases List.mem_cons.mp hx with rfl | hx
      · exact h0
      · exact fedsE_zero most l (i + 1) h x hx
    · rw [if_neg h0] at h
      exact absurd h h0
theorem sendsE_zero (pubs : List Int) (look : Int) : ∀ (l : List Ou), config_Check.sendsE pubs look l = 0 → ∀ o ∈ l, o.f0 ∈ pubs ∧ look ≤ o.f1
  | [], _, o, ho => by cases ho
  | a :: l, h, o, ho => by
    rw [config_Check.sendsE] at h
    by_cases h0 : config_Check.sendE pubs look a = 0
    · rw [if_pos h0] at h
      rcases List.mem_cons.mp ho with rfl | ho
      · rw [sendE_eq] at h0
        by_cases h1 : o.f0 ∈ pubs
        · rw [if_pos h1] at h0
          by_cases h2 : o.f1 < look
          · rw [if_pos h2] at h0
            omega
          · exact ⟨h1, by omega⟩
        · rw [if_neg h1] at h0
          omega
      · exact sendsE_zero pubs look l h o ho
    · rw [if_neg h0] at h
      exact absurd h h0
theorem rulesE_zero (pubs : List Int) (look most : Int) : ∀ (l : List Rl), config_Check.rulesE pubs look most l = 0 → ∀ r ∈ l, ∀ o ∈ r.f3, o.f0 ∈ pubs ∧ look ≤ o.f1
  | [], _, r, hr => by cases hr
  | a :: l, h, r, hr => by
    rw [config_Check.rulesE] at h
    by_cases h1 : most ≤ a.f1
    · rw [if_pos h1] at h
      omega
    · rw [if_neg h1] at h
      by_cases h0 : config_Check.sendsE pubs look a.f3 = 0
      · rw [if_pos h0] at h
        rcases List.mem_cons.mp hr with rfl | hr
        · exact sendsE_zero pubs look _ h0
        · exact rulesE_zero pubs look most l h r hr
      · rw [if_neg h0] at h
        exact absurd h h0
theorem fed_good {x : Fd} {most : Int} (h : config_Check.fedE x most = 0) : (1 ≤ x.f1 ∧ x.f1 ≤ 1048576) ∧ ∀ r ∈ x.f3, ∀ o ∈ r.f3, o.f0 ∈ x.f4 ∧ x.f1 ≤ o.f1 := by
  unfold config_Check.fedE at h
  have hz := firstE_zero h
  have h1 := hz (config_Check.un (config_Check.wi x.f1 1 1048576) 80) (by simp)
  have h2 := hz (config_Check.rulesE x.f4 x.f1 most x.f3) (by simp)
  refine ⟨?_, rulesE_zero _ _ _ _ h2⟩
  unfold config_Check.un config_Check.wi at h1
  by_cases hd : 1 ≤ x.f1 ∧ x.f1 ≤ 1048576
  · exact hd
  · rw [decide_eq_false hd] at h1
    simp at h1
theorem to_ne (ps : List Int) (f c : Int) (l : List Fd) (n : Nat) : ∀ x ∈ config_Routes.to ps f c l n, x ≠ f := by
  induction n with
  | zero => exact fun x hx => (by cases hx)
  | succ n ih =>
    intro x hx
    rw [config_Routes.to] at hx
    split at hx
    · rename_i hc
      rcases List.mem_append.mp hx with hx | hx
      · exact ih x hx
      · rw [List.mem_singleton.mp hx]
        simp only [Bool.and_eq_true, Bool.not_eq_true', beq_eq_false_iff_ne] at hc
        exact hc.1
    · exact ih x hx
theorem spread_mem (l0 : List Int) (l1 : List Fd) (f now body : Int) (t : List Ou) : ∀ (seq : Int) (m : Ms), m ∈ spreadL l0 l1 f now body seq t → ∃ (j : Int) (o : Ou) (u : Int), 0 ≤ j ∧ j < t.length ∧ o ∈ t ∧ u ∈ config_Routes.to l0 f o.f0 l1 l1.length ∧ m = ⟨⟨cl (cl now + cl o.f1), f, wrap64 (seq + j)⟩, u, o.f0, (body % 1000 + o.f2 % 1000) % 1000⟩ := by
  induction t with
  | nil => exact fun _ _ h => (by cases h)
  | cons o t ih =>
    intro seq m hm
    rw [spreadL] at hm
    rcases List.mem_append.mp hm with hm | hm
    · unfold msgs at hm
      obtain ⟨u, hu, rfl⟩ := List.mem_map.mp hm
      exact ⟨0, o, u, by omega, by rw [List.length_cons]; omega, List.mem_cons_self, hu, by rw [Int.add_zero]⟩
    · obtain ⟨j, o', u, h1, h2, h3, h4, rfl⟩ := ih (seq + 1) m hm
      exact ⟨j + 1, o', u, by omega, by rw [List.length_cons]; omega, List.mem_cons_of_mem _ h3, h4, by rw [show seq + 1 + j = seq + (j + 1) by omega]⟩
theorem getD_mem' {α : Type} {l : List α} {z : α} {i : Nat} (h : i < l.length) : l.getD i z ∈ l := by
  rw [List.getD_eq_getElem?_getD, List.getElem?_eq_getElem h]
  exact List.getElem_mem h
theorem later_time {now look d : Int} (h0 : 0 ≤ now) (h1 : now ≤ 4294967295) (h2 : 1 ≤ look) (h3 : look ≤ 1048576) (h4 : look ≤ d) : now + look ≤ cl (cl now + cl d) := by
  have e1 : cl now = now := by unfold cl; rw [if_neg (by omega), if_neg (by omega)]
  rw [e1]
  unfold cl
  split <;> split <;> omega
theorem ConfigLater : pacelinelaw08_ConfigLater.Pure := by
  intro l0 l1 a0 a1 a2 a3 a4 h0 h1 w2 w3 w4 w5 w6
  obtain ⟨K, hK⟩ : ∃ K : Nat, 200000 ≤ K := ⟨200000, Nat.le_refl _⟩
  refine ⟨K, ?_⟩
  unfold pacelinelaw08_ConfigLater.f
  refine if_pos ⟨⟨bounds_u8 w3, bounds_u8 w4, bounds_u32 w5, bounds_u16 w6⟩, ?_⟩
  have hb5 := bounds_u32 w5
  unfold pacelinelaw08_ConfigLater.P
  obtain ⟨b, hb, hl⟩ := heavy_told l0 l1 a0 K (by omega)
  cases b with
  | true => exact .inl hb
  | false =>
    obtain ⟨g0, g1, g2⟩ := hl rfl
    refine .inr ⟨hb, g1, (config_Check.all l0 l1 a0).1, (config_Check.all l0 l1 a0).2, (config_Check.all l0 l1 a0).1, tcheck8 l0 l1 a0 h1, rcheck8 l0 l1 a0 g1 g2 K (by omega), fun hz => ?_⟩
    obtain ⟨_, n1, n8, hf⟩ := all_zero hz
    refine ⟨n1, fun g hg => ?_⟩
    have hx : l1.getD g z42 ∈ l1 := getD_mem' hg
    have hlx := g2 _ hx
    obtain ⟨⟨k1, k2⟩, hr⟩ := fed_good (fedsE_zero _ _ _ hf _ hx)
    refine ⟨hlx.1, by omega, k2, fun q hq => ?_⟩
    unfold clSends clGood
    have hrm : (l1.getD g z42).f3.getD q z44 ∈ (l1.getD g z42).f3 := getD_mem' hq
    have hs := hlx.2.2.2.2 _ hrm
    have hro := hr _ hrm
    have hp := hlx.2.1
    generalize l1.getD g z42 = x at *
    generalize x.f3.getD q z44 = r at *
    have hS := spreadL_length l0 l1 (g : Int) a3 a4 g1 r.f3 7
    refine ⟨spreadL l0 l1 (g : Int) a3 a4 7 r.f3, tspread l0 l1 a0 (g : Int) 7 a3 a4 g1 r.f3 hs K (by omega), by omega, fun i hi => ?_⟩
    obtain ⟨j, o, u, j0, j1, ho, hu, hm⟩ := spread_mem l0 l1 (g : Int) a3 a4 r.f3 7 _ (getD_mem' (z := z48) hi)
    rw [hm]
    obtain ⟨o1, o2⟩ := hro o ho
    have hjw : wrap64 (7 + j) = 7 + j := wrap64_id (by omega) (by omega)
    have hto := config_Routes.to_length l0 (g : Int) o.f0 l1 l1.length
    refine ⟨later_time hb5.1 hb5.2 k1 k2 o2, to_ne _ _ _ _ _ u hu, rfl, ?_, ?_, config_Routes.to l0 (g : Int) o.f0 l1 l1.length, rroutes l0 l1 a0 (g : Int) o.f0 g1 g2 K (by omega), ?_⟩
    · show 7 ≤ wrap64 (7 + j)
      rw [hjw]
      omega
    · show pacelineref05_Has.f K x.f4 o.f0 = some true
      rw [rhas _ _ (by omega) K (by omega), decide_eq_true o1]
    · show pacelineref05_Has.f K (config_Routes.to l0 (g : Int) o.f0 l1 l1.length) u = some true
      rw [rhas _ _ (by omega) K (by omega), decide_eq_true hu]

end Go.Proofs.Ytdlagficilbbbaa.Pure
