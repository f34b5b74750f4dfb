/- 'pacelinelaw07.TableTurned': whatever rules, state and class: the law answers true. Conditions: none beyond the form's own reach. -/
import Derived.Test.YtccidadepjcjjaaPTableTurnedx
set_option linter.unusedVariables false
set_option linter.unusedSimpArgs false
namespace Go.Proofs.Ytccidadepjcjjaa.Pure
open Go.RowKit Go.Proofs.Ytccidadepjcjjaa.PTableTurned Go.Proofs.YtccidadepjcjjaaR Go.Proofs.YtccidadepjcjjaaW.PrintWords Go.Proofs.YtccidadepjcjjaaW.PrintLast Go.Proofs.YtccidadepjcjjaaI

abbrev Rl := S49
abbrev Ou := S23
def findV (l : List Rl) (s c : Int) : Int := idx (fun r => r.f0 == s && r.f1 == c) l
def stepV (l : List Rl) (s c : Int) : Int × List Ou := if findV l s c < 0 then (s, []) else ((rd_T49 l (findV l s c)).f2, (rd_T49 l (findV l s c)).f3)
/-- What is not heavy. -/
def Light (l : List Rl) : Prop := l.length ≤ 60 ∧ ∀ x ∈ l, x.f3.length ≤ 20
theorem rdR_mem {l : List Rl} {i : Int} (h0 : 0 ≤ i) (h1 : i < (l.length : Int)) : rd_T49 l i ∈ l := by
  unfold rd_T49
  rw [List.getD_eq_getElem?_getD, List.getElem?_eq_getElem (show i.toNat < l.length by omega)]
  exact List.getElem_mem _
theorem dropR {l : List Rl} {i : Int} (h0 : 0 ≤ i) (h1 : i < (l.length : Int)) : l.drop i.toNat = rd_T49 l i :: l.drop (i.toNat + 1) := by
  have hlt : i.toNat < l.length := by omega
  rw [List.drop_eq_getElem_cons hlt]
  unfold rd_T49
  rw [List.getD_eq_getElem?_getD, List.getElem?_eq_getElem hlt]
  rfl
theorem findV_range (l : List Rl) (s c : Int) : -1 ≤ findV l s c ∧ findV l s c < (l.length : Int) := idx_range _ _
theorem stepV_len {l : List Rl} (h : Light l) (s c : Int) : (stepV l s c).2.length ≤ 20 := by
  have := findV_range l s c
  unfold stepV
  split
  · simp
  · exact h.2 _ (rdR_mem (by omega) (by omega))
theorem heavy_loop (l : List Rl) (hl : l.length ≤ 60) (d : Nat) : ∀ (k : Nat) (i : Int), 0 ≤ i → i ≤ (l.length : Int) → (l.length : Int) - i = d → d < k →
    ∃ b, pacelinelaw07_heavy.l0 k l i = some b ∧ (b = false → ∀ x ∈ l.drop i.toNat, x.f3.length ≤ 20) := by
  induction d with
  | zero =>
    intro k i h0 h1 hd hk
    obtain ⟨k, rfl⟩ : ∃ m, k = m + 1 := ⟨k - 1, by omega⟩
    refine ⟨false, by simp only [pacelinelaw07_heavy.l0]; rw [if_neg (by omega)], fun _ x hx => ?_⟩
    rw [List.drop_eq_nil_of_le (by omega)] at hx
    cases hx
  | succ d ih =>
    intro k i h0 h1 hd hk
    obtain ⟨k, rfl⟩ : ∃ m, k = m + 1 := ⟨k - 1, by omega⟩
    simp only [pacelinelaw07_heavy.l0]
    rw [if_pos (by omega), if_pos h0]
    by_cases h : ((rd_T49 l i).f3.length : Int) > 20
    · exact ⟨true, by rw [if_pos h], fun e => by cases e⟩
    · rw [if_neg h, wrap64_id (by omega) (by omega)]
      obtain ⟨b, hb, hr⟩ := ih k (i + 1) (by omega) (by omega) (by omega) (by omega)
      refine ⟨b, hb, fun e x hx => ?_⟩
      rw [dropR h0 (by omega)] at hx
      rcases List.mem_cons.mp hx with rfl | hx
      · omega
      · exact hr e x (by rw [show (i + 1).toNat = i.toNat + 1 by omega]; exact hx)
theorem heavy_told (l : List Rl) (k : Nat) (hk : 61 < k) : ∃ b, pacelinelaw07_heavy.f k l = some b ∧ (b = false → Light l) := by
  unfold pacelinelaw07_heavy.f
  by_cases h : (l.length : Int) > 60
  · exact ⟨true, by rw [if_pos h], fun e => by cases e⟩
  · rw [if_neg h]
    obtain ⟨b, hb, hr⟩ := heavy_loop l (by omega) l.length k 0 (by omega) (by omega) (by omega) (by omega)
    exact ⟨b, hb, fun e => ⟨by omega, fun x hx => hr e x hx⟩⟩
theorem rfind_loop (l : List Rl) (hl : l.length ≤ 60) (s c : Int) (d : Nat) : ∀ (k : Nat) (i : Int), 0 ≤ i → i ≤ (l.length : Int) → (l.length : Int) - i = d → d < k → (∀ x ∈ l.take i.toNat, (x.f0 == s && x.f1 == c) = false) →
    pacelineref07_Find.l0 k l s c i = some (findV l s c) := by
  induction d with
  | zero =>
    intro k i h0 h1 hd hk hno
    obtain ⟨k, rfl⟩ : ∃ m, k = m + 1 := ⟨k - 1, by omega⟩
    simp only [pacelineref07_Find.l0]
    rw [if_neg (by omega)]
    unfold findV
    rw [idx_none _ l (fun x hx => hno x (by rw [List.take_of_length_le (by omega)]; exact hx))]
  | succ d ih =>
    intro k i h0 h1 hd hk hno
    obtain ⟨k, rfl⟩ : ∃ m, k = m + 1 := ⟨k - 1, by omega⟩
    have hx : l[i.toNat]? = some (rd_T49 l i) := by
      unfold rd_T49
      rw [List.getD_eq_getElem?_getD, List.getElem?_eq_getElem (show i.toNat < l.length by omega)]
      rfl
    have hnext : (((rd_T49 l i).f0 == s && (rd_T49 l i).f1 == c) = false) → pacelineref07_Find.l0 k l s c (wrap64 (i + 1)) = some (findV l s c) := fun hq => by
      rw [wrap64_id (by omega) (by omega)]
      refine ih k (i + 1) (by omega) (by omega) (by omega) (by omega) ?_
      rw [show (i + 1).toNat = i.toNat + 1 by omega]
      exact take_all hno hx hq
    simp only [pacelineref07_Find.l0]
    rw [if_pos (by omega), if_pos h0]
    by_cases hs : (rd_T49 l i).f0 = s
    · rw [if_pos hs]
      by_cases hc : (rd_T49 l i).f1 = c
      · rw [if_pos hc]
        unfold findV
        rw [hit_at (k := i.toNat) hno hx (by simp [hs, hc])]
        congr 1
        omega
      · rw [if_neg hc]
        exact hnext (by simp [hc])
    · rw [if_neg hs]
      exact hnext (by simp [hs])
theorem rfind (l : List Rl) (hl : l.length ≤ 60) (s c : Int) (k : Nat) (hk : 61 ≤ k) : pacelineref07_Find.f k l s c = some (findV l s c) := by
  unfold pacelineref07_Find.f
  exact rfind_loop l hl s c l.length k 0 (by omega) (by omega) (by omega) (by omega) (fun x hx => by simp at hx)

theorem tstep {l : List Rl} (h : Light l) (s c : Int) : table_Step.f l s c = some (stepV l s c) := by
  have hr := findV_range l s c
  unfold table_Step.f stepV
  show (some (findV l s c)).bind _ = _
  simp only [Option.bind_some]
  by_cases h0 : findV l s c < 0
  · rw [if_pos h0, if_pos h0]
  · have hl := h.2 _ (rdR_mem (l := l) (i := findV l s c) (by omega) (by omega))
    rw [if_neg h0, if_neg h0, if_pos (by omega), if_pos (by omega)]
    unfold slices_Clone.f
    rw [if_pos (by omega)]
    rfl

theorem rstep {l : List Rl} (h : Light l) (s c : Int) (k : Nat) (hk : 61 ≤ k) : pacelineref07_Step.f k l s c = some (stepV l s c) := by
  have hr := findV_range l s c
  unfold pacelineref07_Step.f stepV
  rw [rfind l h.1 s c k hk]
  simp only [Option.bind_some]
  by_cases h0 : findV l s c < 0
  · rw [if_pos h0, if_pos h0]
  · have hl := h.2 _ (rdR_mem (l := l) (i := findV l s c) (by omega) (by omega))
    rw [if_neg h0, if_neg h0, if_pos (by omega), if_pos (by omega), if_pos (by simp; omega), List.nil_append]

theorem tsame_loop (xs : List Ou) (hx : xs.length ≤ 1000000) (d : Nat) : ∀ (k : Nat) (i : Int), 0 ≤ i → i ≤ (xs.length : Int) → (xs.length : Int) - i = d → d < k → pacelineref07_Same.l0 k xs xs i = some true := by
  induction d with
  | zero =>
    intro k i h0 h1 hd hk
    obtain ⟨k, rfl⟩ : ∃ m, k = m + 1 := ⟨k - 1, by omega⟩
    simp only [pacelineref07_Same.l0]
    rw [if_neg (by omega)]
  | succ d ih =>
    intro k i h0 h1 hd hk
    obtain ⟨k, rfl⟩ : ∃ m, k = m + 1 := ⟨k - 1, by omega⟩
    simp only [pacelineref07_Same.l0]
    rw [if_pos (by omega), if_pos h0, if_pos (by omega), if_neg (by simp), wrap64_id (by omega) (by omega)]
    exact ih k (i + 1) (by omega) (by omega) (by omega) (by omega)
theorem tsame (xs : List Ou) (hx : xs.length ≤ 1000000) (k : Nat) (hk : xs.length < k) : pacelineref07_Same.f k xs xs = some true := by
  unfold pacelineref07_Same.f
  rw [if_pos rfl]
  exact tsame_loop xs hx xs.length k 0 (by omega) (by omega) (by omega) hk

def fineV (r : Rl) : Bool := table_Check.bel r.f0 8 && table_Check.bel r.f2 8 && table_Check.bel r.f1 16 && decide (r.f3.length ≤ 3) && !(r.f3.any table_Check.odd)
def checkV (l : List Rl) : Int := if 32 < l.length then 70 else table_Check.scan [] l
theorem bad_iff (l : List Rl) (r : Rl) : table_Check.bad l r = (table_Check.met l r.f0 r.f1 || !(fineV r)) := by
  unfold table_Check.bad fineV
  have : decide (3 < r.f3.length) = !(decide (r.f3.length ≤ 3)) := by
    rw [Bool.eq_iff_iff]; simp
  rw [this]
  cases table_Check.met l r.f0 r.f1 <;> cases table_Check.bel r.f0 8 <;> cases table_Check.bel r.f2 8 <;> cases table_Check.bel r.f1 16 <;> cases decide (r.f3.length ≤ 3) <;> cases r.f3.any table_Check.odd <;> rfl
theorem tcheck {l : List Rl} (h : OkAll ok49 l) : table_Check.f l = some (checkV l) := by
  unfold table_Check.f checkV
  rw [if_pos]
  refine List.all_eq_true.mpr fun r hr => ?_
  obtain ⟨w0, w1, w2, w3⟩ := h.2 r hr
  unfold table_Check.wfr
  rw [w0, w1, w2]
  simp only [Bool.and_true, Bool.true_and]
  refine List.all_eq_true.mpr fun o ho => ?_
  obtain ⟨v0, v1, v2⟩ := w3.2 o ho
  unfold table_Check.wfo
  rw [v0, v1, v2]
  rfl
theorem rin (a b : Int) : pacelineref07_in.f a b = some (table_Check.bel a b) := by
  unfold pacelineref07_in.f table_Check.bel
  by_cases h : 0 ≤ a
  · rw [if_pos h]
    simp [h]
  · rw [if_neg (by omega)]
    simp [h]
theorem dropO {l : List Ou} {i : Int} (h0 : 0 ≤ i) (h1 : i < (l.length : Int)) : l.drop i.toNat = rd_T23 l i :: l.drop (i.toNat + 1) := by
  have hlt : i.toNat < l.length := by omega
  rw [List.drop_eq_getElem_cons hlt]
  unfold rd_T23
  rw [List.getD_eq_getElem?_getD, List.getElem?_eq_getElem hlt]
  rfl
theorem fine_loop (l : List Ou) (hl : l.length ≤ 3) (a b c : Int) (d : Nat) : ∀ (k : Nat) (i : Int), 0 ≤ i → i ≤ (l.length : Int) → (l.length : Int) - i = d → d < k →
    pacelineref07_fine.l0 k i a b c l = some (!((l.drop i.toNat).any table_Check.odd)) := by
  induction d with
  | zero =>
    intro k i h0 h1 hd hk
    obtain ⟨k, rfl⟩ : ∃ m, k = m + 1 := ⟨k - 1, by omega⟩
    simp only [pacelineref07_fine.l0]
    rw [if_neg (by omega), List.drop_eq_nil_of_le (by omega)]
    rfl
  | succ d ih =>
    intro k i h0 h1 hd hk
    obtain ⟨k, rfl⟩ : ∃ m, k = m + 1 := ⟨k - 1, by omega⟩
    simp only [pacelineref07_fine.l0]
    rw [if_pos (by omega), if_pos h0, rin, rin, rin, dropO h0 (by omega), List.any_cons]
    simp only [Option.bind_some]
    have e : table_Check.odd (rd_T23 l i) = (!(table_Check.bel (rd_T23 l i).f0 16) || !(table_Check.bel (rd_T23 l i).f1 1048577) || !(table_Check.bel (rd_T23 l i).f2 1000)) := rfl
    rw [e]
    cases table_Check.bel (rd_T23 l i).f0 16 with
    | false => simp
    | true =>
      cases table_Check.bel (rd_T23 l i).f1 1048577 with
      | false => simp
      | true =>
        cases table_Check.bel (rd_T23 l i).f2 1000 with
        | false => simp
        | true =>
          rw [wrap64_id (by omega) (by omega)]
          simp only [if_true]
          rw [ih k (i + 1) (by omega) (by omega) (by omega) (by omega), show (i + 1).toNat = i.toNat + 1 by omega]
          simp
theorem rfine (r : Rl) (k : Nat) (hk : 8 ≤ k) : pacelineref07_fine.f k r.f0 r.f1 r.f2 r.f3 = some (fineV r) := by
  obtain ⟨k, rfl⟩ : ∃ m, k = m + 1 := ⟨k - 1, by omega⟩
  unfold pacelineref07_fine.f fineV
  rw [rin, rin, rin]
  simp only [Option.bind_some, pacelineref07_fine.j0]
  cases table_Check.bel r.f0 8 with
  | false => simp
  | true =>
    cases table_Check.bel r.f2 8 with
    | false => simp
    | true =>
      cases table_Check.bel r.f1 16 with
      | false => simp
      | true =>
        simp only [if_true]
        by_cases h : (r.f3.length : Int) > 3
        · rw [if_pos (decide_eq_true h)]
          have : decide (r.f3.length ≤ 3) = false := decide_eq_false (by omega)
          rw [this]
          simp
        · rw [if_neg (by simpa using h), fine_loop r.f3 (by omega) _ _ _ r.f3.length k 0 (by omega) (by omega) (by omega) (by omega)]
          have : decide (r.f3.length ≤ 3) = true := decide_eq_true (by omega)
          rw [this]
          simp
theorem idx_left {α : Type} (q : α → Bool) (l l' : List α) (h : 0 ≤ idx q l) : idx q (l ++ l') = idx q l := by
  induction l with
  | nil => simp [idx] at h
  | cons x l ih =>
    simp only [List.cons_append, idx] at h ⊢
    by_cases hq : q x = true
    · rw [if_pos hq, if_pos hq]
    · rw [if_neg hq] at h ⊢
      rw [if_neg hq]
      by_cases hi : idx q l < 0
      · rw [if_pos hi] at h
        omega
      · rw [ih (by omega)]
theorem find_met {l : List Rl} {k : Nat} {x : Rl} (hx : l[k]? = some x) : table_Check.met (l.take k) x.f0 x.f1 = !(decide (findV l x.f0 x.f1 = (k : Int))) := by
  obtain ⟨hk, hxe⟩ := List.getElem?_eq_some_iff.1 hx
  unfold table_Check.met findV
  cases hm : (l.take k).any (fun r => r.f0 == x.f0 && r.f1 == x.f1) with
  | false =>
    rw [hit_at (k := k) (fun y hy => by simpa using (List.any_eq_false.mp hm) y hy) hx (by simp)]
    simp
  | true =>
    have h0 : 0 ≤ idx (fun r : Rl => r.f0 == x.f0 && r.f1 == x.f1) (l.take k) := (idx_iff _ _).mpr hm
    have h1 := idx_left _ (l.take k) (l.drop k) h0
    rw [List.take_append_drop] at h1
    have h2 := (idx_range (fun r : Rl => r.f0 == x.f0 && r.f1 == x.f1) (l.take k)).2
    rw [List.length_take] at h2
    have : decide (idx (fun r : Rl => r.f0 == x.f0 && r.f1 == x.f1) l = (k : Int)) = false := decide_eq_false (by omega)
    rw [this]
    rfl
theorem rcheck_loop (l : List Rl) (hl : l.length ≤ 32) (d : Nat) : ∀ (k : Nat) (i : Int), 0 ≤ i → i ≤ (l.length : Int) → (l.length : Int) - i = d → d + 70 < k → table_Check.scan [] l = table_Check.scan (l.take i.toNat) (l.drop i.toNat) →
    pacelineref07_Check.l0 k l i = some (table_Check.scan [] l) := by
  induction d with
  | zero =>
    intro k i h0 h1 hd hk he
    obtain ⟨k, rfl⟩ : ∃ m, k = m + 1 := ⟨k - 1, by omega⟩
    simp only [pacelineref07_Check.l0]
    rw [if_neg (by omega), he, List.drop_eq_nil_of_le (by omega)]
    rfl
  | succ d ih =>
    intro k i h0 h1 hd hk he
    obtain ⟨k, rfl⟩ : ∃ m, k = m + 1 := ⟨k - 1, by omega⟩
    have hx : l[i.toNat]? = some (rd_T49 l i) := by
      unfold rd_T49
      rw [List.getD_eq_getElem?_getD, List.getElem?_eq_getElem (show i.toNat < l.length by omega)]
      rfl
    have hm := find_met hx
    have hb := bad_iff (l.take i.toNat) (rd_T49 l i)
    rw [hm] at hb
    simp only [pacelineref07_Check.l0]
    rw [if_pos (by omega), if_pos h0, rfine _ k (by omega)]
    simp only [Option.bind_some]
    cases hf : fineV (rd_T49 l i) with
    | false =>
      rw [hf] at hb
      rw [if_neg (by simp), table_Check.stop he hx (by rw [hb]; simp)]
    | true =>
      rw [if_pos rfl, rfind l (by omega) _ _ k (by omega)]
      simp only [Option.bind_some]
      by_cases hi : findV l (rd_T49 l i).f0 (rd_T49 l i).f1 = i
      · rw [if_pos hi, wrap64_id (by omega) (by omega)]
        refine ih k (i + 1) (by omega) (by omega) (by omega) (by omega) ?_
        rw [show (i + 1).toNat = i.toNat + 1 by omega]
        refine table_Check.more he hx ?_
        rw [hb, hf, decide_eq_true (by omega)]
        rfl
      · rw [if_neg hi, table_Check.stop he hx (by rw [hb, hf, decide_eq_false (by omega)]; rfl)]
theorem rcheck (l : List Rl) (k : Nat) (hk : 110 ≤ k) : pacelineref07_Check.f k l = some (checkV l) := by
  unfold pacelineref07_Check.f checkV
  by_cases h : 32 < l.length
  · rw [if_pos (by omega), if_pos h]
  · rw [if_neg (by omega), if_neg h]
    exact rcheck_loop l (by omega) l.length k 0 (by omega) (by omega) (by omega) (by omega) rfl
theorem scan_zero : ∀ (t l : List Rl), table_Check.scan l t = 0 → ∀ x ∈ t, fineV x = true
  | [], _, _ => fun x hx => by cases hx
  | r :: t, l, h => by
    rw [table_Check.scan] at h
    cases hb : table_Check.bad l r with
    | true => rw [hb] at h; simp at h
    | false =>
      rw [hb] at h
      simp only [Bool.false_eq_true, if_false] at h
      have hf : fineV r = true := by
        rw [bad_iff] at hb
        simp only [Bool.or_eq_false_iff, Bool.not_eq_false'] at hb
        exact hb.2
      intro x hx
      rcases List.mem_cons.mp hx with rfl | hx
      · exact hf
      · exact scan_zero t _ h x hx
theorem check_zero {l : List Rl} (h : checkV l = 0) : ∀ x ∈ l, fineV x = true := by
  unfold checkV at h
  split at h
  · cases h
  · exact scan_zero l [] h
theorem fine_facts {x : Rl} (h : fineV x = true) : 0 ≤ x.f0 ∧ x.f0 < 8 ∧ 0 ≤ x.f2 ∧ x.f2 < 8 ∧ 0 ≤ x.f1 ∧ x.f1 < 16 ∧ x.f3.length ≤ 3 := by
  unfold fineV table_Check.bel at h
  simp only [Bool.and_eq_true, decide_eq_true_eq] at h
  omega

def apart (a b : Rl) : Prop := ¬ (a.f0 = b.f0 ∧ a.f1 = b.f1)
theorem scan_two : ∀ (t pre : List Rl), table_Check.scan pre t = 0 ∨ table_Check.scan pre t = 70
  | [], _ => .inl rfl
  | r :: t, pre => by
    rw [table_Check.scan]
    split
    · exact .inr rfl
    · exact scan_two t _
theorem scan_iff : ∀ (t pre : List Rl), table_Check.scan pre t = 0 ↔ (∀ x ∈ t, fineV x = true) ∧ (∀ x ∈ t, table_Check.met pre x.f0 x.f1 = false) ∧ t.Pairwise apart
  | [], _ => ⟨fun _ => ⟨fun x hx => (by cases hx), fun x hx => (by cases hx), List.Pairwise.nil⟩, fun _ => rfl⟩
  | r :: t, pre => by
    have hmet : ∀ s c, table_Check.met (pre ++ [r]) s c = (table_Check.met pre s c || (r.f0 == s && r.f1 == c)) := by
      intro s c
      unfold table_Check.met
      rw [List.any_append]
      simp
    rw [table_Check.scan, bad_iff]
    have ih := scan_iff t (pre ++ [r])
    constructor
    · intro h
      cases hb : (table_Check.met pre r.f0 r.f1 || !(fineV r)) with
      | true => rw [hb] at h; simp at h
      | false =>
        rw [hb] at h
        simp only [Bool.false_eq_true, if_false] at h
        simp only [Bool.or_eq_false_iff, Bool.not_eq_false'] at hb
        obtain ⟨h1, h2, h3⟩ := ih.mp h
        refine ⟨fun x hx => ?_, fun x hx => ?_, List.pairwise_cons.mpr ⟨fun y hy => ?_, h3⟩⟩
        · rcases List.mem_cons.mp hx with rfl | hx
          · exact hb.2
          · exact h1 x hx
        · rcases List.mem_cons.mp hx with rfl | hx
          · exact hb.1
          · have := h2 x hx
            rw [hmet] at this
            exact (Bool.or_eq_false_iff.mp this).1
        · have := h2 y hy
          rw [hmet] at this
          have := (Bool.or_eq_false_iff.mp this).2
          intro hk
          rw [hk.1, hk.2] at this
          simp at this
    · rintro ⟨h1, h2, h3⟩
      obtain ⟨h4, h5⟩ := List.pairwise_cons.mp h3
      rw [h1 r List.mem_cons_self, h2 r List.mem_cons_self]
      simp only [Bool.not_true, Bool.or_false, Bool.false_eq_true, if_false]
      refine ih.mpr ⟨fun x hx => h1 x (List.mem_cons_of_mem _ hx), fun x hx => ?_, h5⟩
      rw [hmet, h2 x (List.mem_cons_of_mem _ hx), Bool.false_or]
      have := h4 x hx
      unfold apart at this
      cases hb : (r.f0 == x.f0 && r.f1 == x.f1) with
      | false => rfl
      | true =>
        obtain ⟨h6, h7⟩ := Bool.and_eq_true_iff.mp hb
        exact absurd ⟨beq_iff_eq.mp h6, beq_iff_eq.mp h7⟩ this
theorem check_iff (l : List Rl) : checkV l = 0 ↔ l.length ≤ 32 ∧ (∀ x ∈ l, fineV x = true) ∧ l.Pairwise apart := by
  unfold checkV
  by_cases h : 32 < l.length
  · rw [if_pos h]
    exact ⟨fun e => (by cases e), fun e => (by omega)⟩
  · rw [if_neg h, scan_iff]
    exact ⟨fun e => ⟨by omega, e.1, e.2.2⟩, fun e => ⟨e.2.1, fun x hx => by simp [table_Check.met], e.2.2⟩⟩
theorem check_two (l : List Rl) : checkV l = 0 ∨ checkV l = 70 := by
  unfold checkV
  split
  · exact .inr rfl
  · exact scan_two l []
theorem apart_rev {l : List Rl} (h : l.Pairwise apart) : l.reverse.Pairwise apart :=
  List.pairwise_reverse.mpr (h.imp (fun {a b} h e => h ⟨e.1.symm, e.2.symm⟩))
theorem check_rev (l : List Rl) : checkV l.reverse = checkV l := by
  have hiff : checkV l.reverse = 0 ↔ checkV l = 0 := by
    rw [check_iff, check_iff, List.length_reverse]
    constructor
    · rintro ⟨h1, h2, h3⟩
      exact ⟨h1, fun x hx => h2 x (List.mem_reverse.mpr hx), by have := apart_rev h3; rwa [List.reverse_reverse] at this⟩
    · rintro ⟨h1, h2, h3⟩
      exact ⟨h1, fun x hx => h2 x (List.mem_reverse.mp hx), apart_rev h3⟩
  rcases check_two l with h | h
  · rw [h, hiff.mpr h]
  · rcases check_two l.reverse with h' | h'
    · have := hiff.mp h'
      rw [this] at h
      cases h
    · rw [h, h']
theorem find_idx (q : Rl → Bool) : ∀ l : List Rl, l.find? q = if idx q l < 0 then none else some (rd_T49 l (idx q l))
  | [] => rfl
  | x :: l => by
    have hr := idx_range q l
    rw [List.find?_cons, find_idx q l, idx]
    cases hq : q x with
    | true => rfl
    | false =>
      simp only [Bool.false_eq_true, if_false]
      by_cases hi : idx q l < 0
      · rw [if_pos hi, if_pos hi]
        rfl
      · rw [if_neg hi, if_neg hi, if_neg (by omega)]
        unfold rd_T49
        rw [show (idx q l + 1).toNat = (idx q l).toNat + 1 by omega, List.getD_cons_succ]
theorem stepV_find (l : List Rl) (s c : Int) : stepV l s c = match l.find? (fun r => r.f0 == s && r.f1 == c) with | none => (s, []) | some r => (r.f2, r.f3) := by
  unfold stepV
  rw [find_idx]
  show (if findV l s c < 0 then _ else _) = match (if findV l s c < 0 then none else some (rd_T49 l (findV l s c))) with | none => (s, []) | some r => (r.f2, r.f3)
  by_cases h : findV l s c < 0
  · rw [if_pos h, if_pos h]
  · rw [if_neg h, if_neg h]
theorem apart_one : ∀ {l : List Rl}, l.Pairwise apart → ∀ a ∈ l, ∀ b ∈ l, a.f0 = b.f0 → a.f1 = b.f1 → a = b
  | [], _, _, ha, _, _, _, _ => by cases ha
  | x :: l, h, a, ha, b, hb, e0, e1 => by
    obtain ⟨h1, h2⟩ := List.pairwise_cons.mp h
    rcases List.mem_cons.mp ha with rfl | ha'
    · rcases List.mem_cons.mp hb with rfl | hb'
      · rfl
      · exact absurd ⟨e0, e1⟩ (h1 b hb')
    · rcases List.mem_cons.mp hb with rfl | hb'
      · exact absurd ⟨e0.symm, e1.symm⟩ (h1 a ha')
      · exact apart_one h2 a ha' b hb' e0 e1
theorem stepV_rev {l : List Rl} (h : l.Pairwise apart) (s c : Int) : stepV l.reverse s c = stepV l s c := by
  rw [stepV_find, stepV_find]
  cases h1 : l.find? (fun r => r.f0 == s && r.f1 == c) with
  | none =>
    have : l.reverse.find? (fun r => r.f0 == s && r.f1 == c) = none := List.find?_eq_none.mpr (fun x hx => List.find?_eq_none.mp h1 x (List.mem_reverse.mp hx))
    rw [this]
  | some a =>
    cases h2 : l.reverse.find? (fun r => r.f0 == s && r.f1 == c) with
    | none =>
      have := List.find?_eq_none.mp h2 a (List.mem_reverse.mpr (List.mem_of_find?_eq_some h1))
      exact absurd (List.find?_some h1) this
    | some b =>
      have ha := List.find?_some h1
      have hb := List.find?_some h2
      simp only [Bool.and_eq_true, beq_iff_eq] at ha hb
      have := apart_one h a (List.mem_of_find?_eq_some h1) b (List.mem_reverse.mp (List.mem_of_find?_eq_some h2)) (by omega) (by omega)
      rw [this]
theorem TableTurned : pacelinelaw07_TableTurned.Pure := by
  intro l a b hl _ _
  obtain ⟨K, hK⟩ : ∃ K : Nat, 10000 ≤ K := ⟨10000, Nat.le_refl _⟩
  refine ⟨K, ?_⟩
  unfold pacelinelaw07_TableTurned.f
  rw [if_pos]
  unfold pacelinelaw07_TableTurned.P
  obtain ⟨hv, hh, hlight⟩ := heavy_told l K (by omega)
  rw [hh]
  cases hv with
  | true => exact .inl rfl
  | false =>
    have h := hlight rfl
    have hrev : Light l.reverse := ⟨by rw [List.length_reverse]; exact h.1, fun x hx => h.2 x (List.mem_reverse.mp hx)⟩
    have hlr : OkAll ok49 l.reverse := ⟨by rw [List.length_reverse]; exact hl.1, fun x hx => hl.2 x (List.mem_reverse.mp hx)⟩
    refine .inr ⟨rfl, h.1, checkV l, (stepV l (Int.tmod (wrap64 a) 8) (Int.tmod (wrap64 b) 16)).1, (stepV l.reverse (Int.tmod (wrap64 a) 8) (Int.tmod (wrap64 b) 16)).1, findV l (-1) 0, (stepV l (Int.tmod (wrap64 a) 8) (Int.tmod (wrap64 b) 16)).2, (stepV l.reverse (Int.tmod (wrap64 a) 8) (Int.tmod (wrap64 b) 16)).2, (stepV l (Int.tmod (wrap64 a) 8) (Int.tmod (wrap64 b) 16)).2, tcheck hl, rcheck l K (by omega), by rw [tcheck hlr, check_rev], tstep h _ _, tstep hrev _ _, rstep h _ _ K (by omega), fun e => ?_, rfl, rfind l h.1 _ _ K (by omega)⟩
    have hp := ((check_iff l).mp e).2.2
    rw [stepV_rev hp]
    refine ⟨rfl, ?_⟩
    have := stepV_len h (Int.tmod (wrap64 a) 8) (Int.tmod (wrap64 b) 16)
    exact tsame _ (by omega) K (by omega)

end Go.Proofs.Ytccidadepjcjjaa.Pure
