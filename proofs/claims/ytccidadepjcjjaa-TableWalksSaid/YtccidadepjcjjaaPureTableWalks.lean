/- 'pacelinelaw07.TableWalks': whatever rules, state and classes: the law answers true. Conditions: none beyond the form's own reach. -/
import Derived.Test.YtccidadepjcjjaaPTableWalksx
set_option linter.unusedVariables false
set_option linter.unusedSimpArgs false
namespace Go.Proofs.Ytccidadepjcjjaa.Pure
open Go.RowKit Go.Proofs.Ytccidadepjcjjaa.PTableWalks Go.Proofs.YtccidadepjcjjaaR Go.Proofs.YtccidadepjcjjaaW.PrintWords Go.Proofs.YtccidadepjcjjaaW.PrintLast Go.Proofs.YtccidadepjcjjaaI

abbrev Rl := S49
abbrev Ou := S23
def findV (l : List Rl) (s c : Int) : Int := idx (fun r => r.f0 == s && r.f1 == c) l
def stepV (l : List Rl) (s c : Int) : Int × List Ou := if findV l s c < 0 then (s, []) else ((rd_T49 l (findV l s c)).f2, (rd_T49 l (findV l s c)).f3)
/-- What is not heavy. -/
def Light (l : List Rl) : Prop := l.length ≤ 60 ∧ ∀ x ∈ l, x.f3.length ≤ 20
theorem rdR_mem {l : List Rl} {i : Int} (h0 : 0 ≤ i) (h1 : i < (l.length : Int)) : rd_T49 l i ∈ l := by
  unfold rd_T49
  rw [List.getD_eq_getElem?_getD, List.getElem?_eq_getElem (show i.toNat < l.length by omega)]
  exact List.getElem_mem _
theorem dropR {l : List Rl} {i : Int} (h0 : 0 ≤ i) (h1 : i < (l.length : Int)) : l.drop i.toNat = rd_T49 l i :: l.drop (i.toNat + 1) := by
  have hlt : i.toNat < l.length := by omega
  rw [List.drop_eq_getElem_cons hlt]
  unfold rd_T49
  rw [List.getD_eq_getElem?_getD, List.getElem?_eq_getElem hlt]
  rfl
theorem findV_range (l : List Rl) (s c : Int) : -1 ≤ findV l s c ∧ findV l s c < (l.length : Int) := idx_range _ _
theorem stepV_len {l : List Rl} (h : Light l) (s c : Int) : (stepV l s c).2.length ≤ 20 := by
  have := findV_range l s c
  unfold stepV
  split
  · simp
  · exact h.2 _ (rdR_mem (by omega) (by omega))
theorem heavy_loop (l : List Rl) (hl : l.length ≤ 60) (d : Nat) : ∀ (k : Nat) (i : Int), 0 ≤ i → i ≤ (l.length : Int) → (l.length : Int) - i = d → d < k →
    ∃ b, pacelinelaw07_heavy.l0 k l i = some b ∧ (b = false → ∀ x ∈ l.drop i.toNat, x.f3.length ≤ 20) := by
  induction d with
  | zero =>
    intro k i h0 h1 hd hk
    obtain ⟨k, rfl⟩ : ∃ m, k = m + 1 := ⟨k - 1, by omega⟩
    refine ⟨false, by simp only [pacelinelaw07_heavy.l0]; rw [if_neg (by omega)], fun _ x hx => ?_⟩
    rw [List.drop_eq_nil_of_le (by omega)] at hx
    cases hx
  | succ d ih =>
    intro k i h0 h1 hd hk
    obtain ⟨k, rfl⟩ : ∃ m, k = m + 1 := ⟨k - 1, by omega⟩
    simp only [pacelinelaw07_heavy.l0]
    rw [if_pos (by omega), if_pos h0]
    by_cases h : ((rd_T49 l i).f3.length : Int) > 20
    · exact ⟨true, by rw [if_pos h], fun e => by cases e⟩
    · rw [if_neg h, wrap64_id (by omega) (by omega)]
      obtain ⟨b, hb, hr⟩ := ih k (i + 1) (by omega) (by omega) (by omega) (by omega)
      refine ⟨b, hb, fun e x hx => ?_⟩
      rw [dropR h0 (by omega)] at hx
      rcases List.mem_cons.mp hx with rfl | hx
      · omega
      · exact hr e x (by rw [show (i + 1).toNat = i.toNat + 1 by omega]; exact hx)
theorem heavy_told (l : List Rl) (k : Nat) (hk : 61 < k) : ∃ b, pacelinelaw07_heavy.f k l = some b ∧ (b = false → Light l) := by
  unfold pacelinelaw07_heavy.f
  by_cases h : (l.length : Int) > 60
  · exact ⟨true, by rw [if_pos h], fun e => by cases e⟩
  · rw [if_neg h]
    obtain ⟨b, hb, hr⟩ := heavy_loop l (by omega) l.length k 0 (by omega) (by omega) (by omega) (by omega)
    exact ⟨b, hb, fun e => ⟨by omega, fun x hx => hr e x hx⟩⟩
theorem rfind_loop (l : List Rl) (hl : l.length ≤ 60) (s c : Int) (d : Nat) : ∀ (k : Nat) (i : Int), 0 ≤ i → i ≤ (l.length : Int) → (l.length : Int) - i = d → d < k → (∀ x ∈ l.take i.toNat, (x.f0 == s && x.f1 == c) = false) →
    pacelineref07_Find.l0 k l s c i = some (findV l s c) := by
  induction d with
  | zero =>
    intro k i h0 h1 hd hk hno
    obtain ⟨k, rfl⟩ : ∃ m, k = m + 1 := ⟨k - 1, by omega⟩
    simp only [pacelineref07_Find.l0]
    rw [if_neg (by omega)]
    unfold findV
    rw [idx_none _ l (fun x hx => hno x (by rw [List.take_of_length_le (by omega)]; exact hx))]
  | succ d ih =>
    intro k i h0 h1 hd hk hno
    obtain ⟨k, rfl⟩ : ∃ m, k = m + 1 := ⟨k - 1, by omega⟩
    have hx : l[i.toNat]? = some (rd_T49 l i) := by
      unfold rd_T49
      rw [List.getD_eq_getElem?_getD, List.getElem?_eq_getElem (show i.toNat < l.length by omega)]
      rfl
    have hnext : (((rd_T49 l i).f0 == s && (rd_T49 l i).f1 == c) = false) → pacelineref07_Find.l0 k l s c (wrap64 (i + 1)) = some (findV l s c) := fun hq => by
      rw [wrap64_id (by omega) (by omega)]
      refine ih k (i + 1) (by omega) (by omega) (by omega) (by omega) ?_
      rw [show (i + 1).toNat = i.toNat + 1 by omega]
      exact take_all hno hx hq
    simp only [pacelineref07_Find.l0]
    rw [if_pos (by omega), if_pos h0]
    by_cases hs : (rd_T49 l i).f0 = s
    · rw [if_pos hs]
      by_cases hc : (rd_T49 l i).f1 = c
      · rw [if_pos hc]
        unfold findV
        rw [hit_at (k := i.toNat) hno hx (by simp [hs, hc])]
        congr 1
        omega
      · rw [if_neg hc]
        exact hnext (by simp [hc])
    · rw [if_neg hs]
      exact hnext (by simp [hs])
theorem rfind (l : List Rl) (hl : l.length ≤ 60) (s c : Int) (k : Nat) (hk : 61 ≤ k) : pacelineref07_Find.f k l s c = some (findV l s c) := by
  unfold pacelineref07_Find.f
  exact rfind_loop l hl s c l.length k 0 (by omega) (by omega) (by omega) (by omega) (fun x hx => by simp at hx)

theorem tstep {l : List Rl} (h : Light l) (s c : Int) : table_Step.f l s c = some (stepV l s c) := by
  have hr := findV_range l s c
  unfold table_Step.f stepV
  show (some (findV l s c)).bind _ = _
  simp only [Option.bind_some]
  by_cases h0 : findV l s c < 0
  · rw [if_pos h0, if_pos h0]
  · have hl := h.2 _ (rdR_mem (l := l) (i := findV l s c) (by omega) (by omega))
    rw [if_neg h0, if_neg h0, if_pos (by omega), if_pos (by omega)]
    unfold slices_Clone.f
    rw [if_pos (by omega)]
    rfl
theorem rstep {l : List Rl} (h : Light l) (s c : Int) (k : Nat) (hk : 61 ≤ k) : pacelineref07_Step.f k l s c = some (stepV l s c) := by
  have hr := findV_range l s c
  unfold pacelineref07_Step.f stepV
  rw [rfind l h.1 s c k hk]
  simp only [Option.bind_some]
  by_cases h0 : findV l s c < 0
  · rw [if_pos h0, if_pos h0]
  · have hl := h.2 _ (rdR_mem (l := l) (i := findV l s c) (by omega) (by omega))
    rw [if_neg h0, if_neg h0, if_pos (by omega), if_pos (by omega), if_pos (by simp; omega), List.nil_append]

theorem tsame_loop (xs : List Ou) (hx : xs.length ≤ 1000000) (d : Nat) : ∀ (k : Nat) (i : Int), 0 ≤ i → i ≤ (xs.length : Int) → (xs.length : Int) - i = d → d < k → pacelineref07_Same.l0 k xs xs i = some true := by
  induction d with
  | zero =>
    intro k i h0 h1 hd hk
    obtain ⟨k, rfl⟩ : ∃ m, k = m + 1 := ⟨k - 1, by omega⟩
    simp only [pacelineref07_Same.l0]
    rw [if_neg (by omega)]
  | succ d ih =>
    intro k i h0 h1 hd hk
    obtain ⟨k, rfl⟩ : ∃ m, k = m + 1 := ⟨k - 1, by omega⟩
    simp only [pacelineref07_Same.l0]
    rw [if_pos (by omega), if_pos h0, if_pos (by omega), if_neg (by simp), wrap64_id (by omega) (by omega)]
    exact ih k (i + 1) (by omega) (by omega) (by omega) (by omega)
theorem tsame (xs : List Ou) (hx : xs.length ≤ 1000000) (k : Nat) (hk : xs.length < k) : pacelineref07_Same.f k xs xs = some true := by
  unfold pacelineref07_Same.f
  rw [if_pos rfl]
  exact tsame_loop xs hx xs.length k 0 (by omega) (by omega) (by omega) hk

def walkV (l : List Rl) : Int → List Int → Int × List Ou
  | s, [] => (s, [])
  | s, c :: cs => ((walkV l (stepV l s c).1 cs).1, (stepV l s c).2 ++ (walkV l (stepV l s c).1 cs).2)
theorem walkV_len {l : List Rl} (h : Light l) : ∀ (cs : List Int) (s : Int), (walkV l s cs).2.length ≤ 20 * cs.length := by
  intro cs
  induction cs with
  | nil => intro s; simp [walkV]
  | cons c cs ih =>
    intro s
    have h1 := stepV_len h s c
    have h2 := ih (stepV l s c).1
    simp only [walkV, List.length_append, List.length_cons]
    omega
theorem walkV_append (l : List Rl) : ∀ (a b : List Int) (s : Int), walkV l s (a ++ b) = ((walkV l (walkV l s a).1 b).1, (walkV l s a).2 ++ (walkV l (walkV l s a).1 b).2) := by
  intro a
  induction a with
  | nil => intro b s; simp [walkV]
  | cons c a ih =>
    intro b s
    simp only [List.cons_append, walkV, ih, List.append_assoc]
theorem twalk_loop {l : List Rl} (h : Light l) (cs : List Int) (hc : cs.length ≤ 200) (d : Nat) : ∀ (k : Nat) (s : Int) (acc : List Ou) (i : Int), 0 ≤ i → i ≤ (cs.length : Int) → (cs.length : Int) - i = d → d < k → acc.length ≤ 20 * i.toNat →
    table_Walk.l0 k l s acc cs (cs.length : Int) i = some ((walkV l s (cs.drop i.toNat)).1, acc ++ (walkV l s (cs.drop i.toNat)).2) := by
  induction d with
  | zero =>
    intro k s acc i h0 h1 hd hk ha
    obtain ⟨k, rfl⟩ : ∃ m, k = m + 1 := ⟨k - 1, by omega⟩
    simp only [table_Walk.l0]
    rw [if_neg (by omega), List.drop_eq_nil_of_le (by omega)]
    simp [walkV]
  | succ d ih =>
    intro k s acc i h0 h1 hd hk ha
    obtain ⟨k, rfl⟩ : ∃ m, k = m + 1 := ⟨k - 1, by omega⟩
    have hlt : i.toNat < cs.length := by omega
    have e : cs.drop i.toNat = rd cs i :: cs.drop (i.toNat + 1) := by
      rw [List.drop_eq_getElem_cons hlt]
      unfold rd
      rw [List.getD_eq_getElem?_getD, List.getElem?_eq_getElem hlt]
      rfl
    have hs := stepV_len h s (rd cs i)
    simp only [table_Walk.l0]
    rw [if_pos (by omega), if_pos h0, if_pos (by omega), tstep h]
    simp only [Option.bind_some]
    rw [if_pos (by omega), wrap64_id (by omega) (by omega), ih k _ _ (i + 1) (by omega) (by omega) (by omega) (by omega) (by simp; omega), e, show (i + 1).toNat = i.toNat + 1 by omega]
    simp [walkV]
theorem twalk {l : List Rl} (h : Light l) (s : Int) (cs : List Int) (hc : cs.length ≤ 200) (k : Nat) (hk : 201 ≤ k) : table_Walk.f k l s cs = some (walkV l s cs) := by
  unfold table_Walk.f
  rw [twalk_loop h cs hc cs.length k s [] 0 (by omega) (by omega) (by omega) (by omega) (by simp)]
  rfl
theorem rwalk_loop {l : List Rl} (h : Light l) (cs : List Int) (hc : cs.length ≤ 200) (d : Nat) : ∀ (k : Nat) (s : Int) (acc : List Ou) (i : Int), 0 ≤ i → i ≤ (cs.length : Int) → (cs.length : Int) - i = d → d + 62 < k → acc.length ≤ 20 * i.toNat →
    pacelineref07_Walk.l0 k l s cs acc i = some ((walkV l s (cs.drop i.toNat)).1, acc ++ (walkV l s (cs.drop i.toNat)).2) := by
  induction d with
  | zero =>
    intro k s acc i h0 h1 hd hk ha
    obtain ⟨k, rfl⟩ : ∃ m, k = m + 1 := ⟨k - 1, by omega⟩
    simp only [pacelineref07_Walk.l0]
    rw [if_neg (by omega), List.drop_eq_nil_of_le (by omega)]
    simp [walkV]
  | succ d ih =>
    intro k s acc i h0 h1 hd hk ha
    obtain ⟨k, rfl⟩ : ∃ m, k = m + 1 := ⟨k - 1, by omega⟩
    have hlt : i.toNat < cs.length := by omega
    have e : cs.drop i.toNat = rd cs i :: cs.drop (i.toNat + 1) := by
      rw [List.drop_eq_getElem_cons hlt]
      unfold rd
      rw [List.getD_eq_getElem?_getD, List.getElem?_eq_getElem hlt]
      rfl
    have hs := stepV_len h s (rd cs i)
    simp only [pacelineref07_Walk.l0]
    rw [if_pos (by omega), if_pos h0, rstep h _ _ k (by omega)]
    simp only [Option.bind_some]
    rw [if_pos (by omega), wrap64_id (by omega) (by omega), ih k _ _ (i + 1) (by omega) (by omega) (by omega) (by omega) (by simp; omega), e, show (i + 1).toNat = i.toNat + 1 by omega]
    simp [walkV]
theorem rwalk {l : List Rl} (h : Light l) (s : Int) (cs : List Int) (hc : cs.length ≤ 200) (k : Nat) (hk : 300 ≤ k) : pacelineref07_Walk.f k l s cs = some (walkV l s cs) := by
  unfold pacelineref07_Walk.f
  rw [rwalk_loop h cs hc cs.length k s [] 0 (by omega) (by omega) (by omega) (by omega) (by simp)]
  rfl
theorem TableWalks : pacelinelaw07_TableWalks.Pure := by
  intro l s a b _ _ _ _
  obtain ⟨K, hK⟩ : ∃ K : Nat, 10000 ≤ K := ⟨10000, Nat.le_refl _⟩
  refine ⟨K + 1, ?_⟩
  unfold pacelinelaw07_TableWalks.f
  obtain ⟨hv, hh, hlight⟩ := heavy_told l (K + 1) (by omega)
  rw [hh]
  simp only [Option.bind_some]
  cases hv with
  | true => simp only [if_true, pacelinelaw07_TableWalks.j0]
  | false =>
    have h := hlight rfl
    simp only [Bool.false_eq_true, if_false]
    by_cases ha : (a.length : Int) > 100
    · rw [if_pos ha]
      simp only [pacelinelaw07_TableWalks.j0, if_true]
    · rw [if_neg ha]
      simp only [pacelinelaw07_TableWalks.j0]
      by_cases hb : (b.length : Int) > 100
      · rw [if_pos (decide_eq_true hb)]
      · rw [if_neg (by simpa using hb)]
        have l1 := walkV_len h a s
        have l2 := walkV_len h b (walkV l s a).1
        have l3 := walkV_len h (a ++ b) s
        rw [List.length_append] at l3
        simp only [Option.bind_some, List.nil_append, List.length_nil]
        rw [if_pos (by omega), if_pos (by omega), twalk h s (a ++ b) (by simp; omega) K (by omega), twalk h s a (by omega) K (by omega)]
        simp only [Option.bind_some]
        rw [twalk h _ b (by omega) K (by omega)]
        simp only [Option.bind_some]
        rw [rwalk h s (a ++ b) (by simp; omega) K (by omega)]
        simp only [Option.bind_some]
        rw [if_pos (by omega), if_pos (by omega)]
        simp only [if_true]
        rw [tsame _ (by omega) K (by omega)]
        simp only [Option.bind_some, if_true]
        rw [if_pos (by rw [walkV_append]), show (walkV l s a).2 ++ (walkV l (walkV l s a).1 b).2 = (walkV l s (a ++ b)).2 by rw [walkV_append], tsame _ (by omega) K (by omega)]
        rfl

end Go.Proofs.Ytccidadepjcjjaa.Pure
