/- Plain: of numbers that hang on the least of the others. A system of them has one solution; a later system has no earlier one; closing the least open one again and again comes to it; so does going down from infinity. -/
import Derived.Test.YtaaaocckfnlgdaaGreatDoorWMore
namespace Go.Proofs.YtaaaocckfnlgdaaGreatDoorL
open Go.Proofs.YtaaaocckfnlgdaaGreatDoorW.PrintWords
set_option linter.unusedVariables false
set_option linter.unusedSimpArgs false

/-- The least of some outputs but one's. -/
def oth (reg : Nat → Bool) (x : Nat → Int) (i : Int) : Nat → Int
  | 0 => 1125899906842624
  | n + 1 => if (n : Int) ≠ i ∧ reg n = true then mn (oth reg x i n) (x n) else oth reg x i n
theorem oth_le_inf (reg : Nat → Bool) (x : Nat → Int) (i : Int) (n : Nat) : oth reg x i n ≤ 1125899906842624 := by
  induction n with
  | zero => exact Int.le_refl _
  | succ n ih =>
    rw [oth]
    split
    · unfold mn; omega
    · exact ih
theorem oth_le {reg : Nat → Bool} {x : Nat → Int} {i : Int} {n j : Nat} (hj : j < n) (hi : (j : Int) ≠ i) (hr : reg j = true) : oth reg x i n ≤ x j := by
  induction n with
  | zero => omega
  | succ n ih =>
    rw [oth]
    by_cases h : j = n
    · subst h
      rw [if_pos ⟨hi, hr⟩]
      unfold mn; omega
    · have := ih (by omega)
      split
      · unfold mn; omega
      · exact this
theorem oth_cases (reg : Nat → Bool) (x : Nat → Int) (i : Int) (n : Nat) : oth reg x i n = 1125899906842624 ∨ ∃ j, j < n ∧ (j : Int) ≠ i ∧ reg j = true ∧ oth reg x i n = x j := by
  induction n with
  | zero => exact .inl rfl
  | succ n ih =>
    rw [oth]
    split
    · rename_i h
      by_cases hm : oth reg x i n ≤ x n
      · rw [show mn (oth reg x i n) (x n) = oth reg x i n by unfold mn; omega]
        rcases ih with h' | ⟨j, h1, h2, h3, h4⟩
        · exact .inl h'
        · exact .inr ⟨j, by omega, h2, h3, h4⟩
      · exact .inr ⟨n, by omega, h.1, h.2, by unfold mn; omega⟩
    · rcases ih with h' | ⟨j, h1, h2, h3, h4⟩
      · exact .inl h'
      · exact .inr ⟨j, by omega, h2, h3, h4⟩
theorem oth_congr {reg reg' : Nat → Bool} {x y : Nat → Int} {i : Int} {n : Nat} (hr : ∀ j, j < n → reg j = reg' j) (hx : ∀ j, j < n → reg j = true → x j = y j) : oth reg x i n = oth reg' y i n := by
  induction n with
  | zero => rfl
  | succ n ih =>
    rw [oth, oth, ih (fun j hj => hr j (by omega)) (fun j hj => hx j (by omega)), ← hr n (by omega)]
    split
    · rename_i h
      rw [hx n (by omega) h.2]
    · rfl
theorem oth_mono {reg : Nat → Bool} {x y : Nat → Int} {i : Int} {n : Nat} (hx : ∀ j, j < n → x j ≤ y j) : oth reg x i n ≤ oth reg y i n := by
  induction n with
  | zero => exact Int.le_refl _
  | succ n ih =>
    have h1 := ih (fun j hj => hx j (by omega))
    have h2 := hx n (by omega)
    rw [oth, oth]
    split
    · unfold mn; omega
    · exact h1
theorem oth_add {reg reg' : Nat → Bool} {x : Nat → Int} {i : Int} {n k : Nat} (hk : reg k = false) (hr : ∀ j, reg' j = (reg j || j == k)) :
    oth reg' x i n = if k < n ∧ (k : Int) ≠ i then mn (oth reg x i n) (x k) else oth reg x i n := by
  induction n with
  | zero => rw [if_neg (by omega)]; rfl
  | succ n ih =>
    rw [oth, ih, oth, hr n]
    by_cases h : n = k
    · subst h
      rw [if_neg (show ¬ (n < n ∧ (n : Int) ≠ i) by omega)]
      by_cases hi : (n : Int) = i
      · rw [if_neg (by simp [hi]), if_neg (fun h => h.2 hi), if_neg (by simp [hk])]
      · rw [if_pos ⟨hi, by simp⟩, if_pos ⟨by omega, hi⟩, if_neg (by simp [hk])]
    · rw [show (n == k) = false by simp [h], Bool.or_false]
      by_cases hc : k < n ∧ (k : Int) ≠ i
      · rw [if_pos hc, if_pos (show k < n + 1 ∧ (k : Int) ≠ i by omega)]
        split
        · unfold mn; omega
        · rfl
      · rw [if_neg hc, if_neg (show ¬ (k < n + 1 ∧ (k : Int) ≠ i) by omega)]

structure Web where
  reg : Nat → Bool
  hg : Nat → Bool
  v : Nat → Int
  t : Nat → Int
  c : Nat → Int
  la : Nat → Int → Int
structure Web.Ok (s : Web) : Prop where
  gt : ∀ i y, s.la i y = 1125899906842624 ∨ y < s.la i y
  mono : ∀ i y z, y ≤ z → s.la i y ≤ s.la i z
  le : ∀ i y, s.la i y ≤ 1125899906842624
  nn : ∀ i y, 0 ≤ s.la i y
  vle : ∀ i, s.v i ≤ 1125899906842624
  vnn : ∀ i, 0 ≤ s.v i
def Web.F (s : Web) (n : Nat) (x : Nat → Int) (i : Nat) : Int :=
  if s.reg i then (if s.hg i then s.la i (mx (s.t i) (mn (s.c i) (oth s.reg x (i : Int) n))) else s.v i) else 1125899906842624
def Sol (s : Web) (n : Nat) (x : Nat → Int) : Prop := ∀ i, i < n → x i = s.F n x i
theorem Web.Ok.F_le {s : Web} (h : s.Ok) (n : Nat) (x : Nat → Int) (i : Nat) : s.F n x i ≤ 1125899906842624 := by
  unfold Web.F
  split
  · split
    · exact h.le _ _
    · exact h.vle _
  · exact Int.le_refl _
theorem Web.Ok.F_nn {s : Web} (h : s.Ok) (n : Nat) (x : Nat → Int) (i : Nat) : 0 ≤ s.F n x i := by
  unfold Web.F
  split
  · split
    · exact h.nn _ _
    · exact h.vnn _
  · omega
theorem Web.Ok.F_mono {s : Web} (h : s.Ok) {n : Nat} {x y : Nat → Int} (hx : ∀ j, j < n → x j ≤ y j) (i : Nat) : s.F n x i ≤ s.F n y i := by
  have := oth_mono (reg := s.reg) (i := (i : Int)) hx
  unfold Web.F
  split
  · split
    · refine h.mono _ _ _ ?_
      unfold mx mn
      omega
    · exact Int.le_refl _
  · exact Int.le_refl _
/-- A later system's solution is nowhere earlier. -/
theorem Sol.le {A B : Web} (hA : A.Ok) (hB : B.Ok) {n : Nat} {x y : Nat → Int} (hx : Sol A n x) (hy : Sol B n y) (hreg : ∀ i, i < n → B.reg i = true → A.reg i = true) (hhg : ∀ i, i < n → B.reg i = true → A.hg i = B.hg i)
    (hv : ∀ i, i < n → B.reg i = true → A.v i ≤ B.v i) (ht : ∀ i, i < n → B.reg i = true → A.t i ≤ B.t i) (hc : ∀ i, i < n → B.reg i = true → A.c i ≤ B.c i) (hla : ∀ i, i < n → B.reg i = true → ∀ z, A.la i z ≤ B.la i z) :
    ∀ i, i < n → x i ≤ y i := by
  have key : ∀ N : Nat, ∀ i, i < n → (y i).toNat = N → x i ≤ y i := by
    intro N
    induction N using Nat.strongRecOn with
    | _ N ih =>
      intro i hi hN
      have ex := hx i hi
      have ey := hy i hi
      have xle := hA.F_le n x i
      cases hr : B.reg i with
      | false =>
        rw [ey, ex]
        refine Int.le_trans xle ?_
        unfold Web.F
        rw [hr]
        simp
      | true =>
        have hr' := hreg i hi hr
        have hh := hhg i hi hr
        unfold Web.F at ex ey
        rw [hr] at ey
        rw [hr'] at ex
        simp only [if_true] at ex ey
        cases hg : B.hg i with
        | false =>
          rw [hg] at ey hh
          rw [hh] at ex
          simp only [Bool.false_eq_true, if_false] at ex ey
          have := hv i hi hr
          omega
        | true =>
          rw [hg] at ey hh
          rw [hh] at ex
          simp only [if_true] at ex ey
          have t1 := ht i hi hr
          have c1 := hc i hi hr
          have hxi : x i ≤ 1125899906842624 := by rw [hx i hi]; exact xle
          by_cases hz : mx (A.t i) (mn (A.c i) (oth A.reg x (i : Int) n)) ≤ mx (B.t i) (mn (B.c i) (oth B.reg y (i : Int) n))
          · rw [ex, ey]
            exact Int.le_trans (hA.mono _ _ _ hz) (hla i hi hr _)
          · rcases hB.gt i (mx (B.t i) (mn (B.c i) (oth B.reg y (i : Int) n))) with h | h
            · rw [ey, h]
              exact hxi
            · rw [← ey] at h
              have hL := oth_le_inf A.reg x (i : Int) n
              rcases oth_cases B.reg y (i : Int) n with h' | ⟨j, j1, j2, j3, j4⟩
              · exfalso
                rw [h'] at hz
                unfold mx mn at hz
                omega
              · by_cases hlt : y j < y i
                · have hyj : 0 ≤ y j := by rw [hy j j1]; exact hB.F_nn n y j
                  have := ih (y j).toNat (by omega) j j1 rfl
                  have hle := oth_le (reg := A.reg) (x := x) (i := (i : Int)) j1 j2 (hreg j j1 j3)
                  exfalso
                  rw [j4] at hz
                  unfold mx mn at hz
                  omega
                · exfalso
                  rw [j4] at hz h
                  unfold mx mn at hz h
                  omega
  exact fun i hi => key _ i hi rfl
theorem Sol.one {A : Web} (hA : A.Ok) {n : Nat} {x y : Nat → Int} (hx : Sol A n x) (hy : Sol A n y) (i : Nat) (hi : i < n) : x i = y i :=
  Int.le_antisymm (Sol.le hA hA hx hy (fun _ _ h => h) (fun _ _ _ => rfl) (fun _ _ _ => Int.le_refl _) (fun _ _ _ => Int.le_refl _) (fun _ _ _ => Int.le_refl _) (fun _ _ _ _ => Int.le_refl _) i hi)
    (Sol.le hA hA hy hx (fun _ _ h => h) (fun _ _ _ => rfl) (fun _ _ _ => Int.le_refl _) (fun _ _ _ => Int.le_refl _) (fun _ _ _ => Int.le_refl _) (fun _ _ _ _ => Int.le_refl _) i hi)

/-! Closing the least open one. -/
structure Stand (s : Web) (n : Nat) (os : Nat → Bool) (x : Nat → Int) : Prop where
  op : ∀ i, i < n → os i = true → s.reg i = true
  no : ∀ i, i < n → s.reg i = false → x i = 1125899906842624
  own : ∀ i, i < n → s.reg i = true → s.hg i = false → x i = s.v i
  hang : ∀ i, i < n → s.reg i = true → s.hg i = true → x i = s.la i (mx (s.t i) (mn (s.c i) (oth (fun j => s.reg j && !os j) x (i : Int) n)))
  ord : ∀ i j, i < n → j < n → s.reg i = true → os i = false → os j = true → x i ≤ x j
theorem Stand.sol {s : Web} {n : Nat} {os : Nat → Bool} {x : Nat → Int} (h : Stand s n os x) (hos : ∀ i, i < n → os i = false) : Sol s n x := by
  intro i hi
  unfold Web.F
  cases hr : s.reg i with
  | false => rw [h.no i hi hr]; simp
  | true =>
    cases hg : s.hg i with
    | false => rw [h.own i hi hr hg]; simp
    | true =>
      simp only [if_true]
      rw [h.hang i hi hr hg]
      congr 3
      exact oth_congr (fun j hj => by rw [hos j hj]; simp) (fun _ _ _ => rfl)
theorem Stand.step {s : Web} (hs : s.Ok) {n : Nat} {os : Nat → Bool} {x : Nat → Int} (h : Stand s n os x) {k : Nat} (hk : k < n) (hok : os k = true) (hle : ∀ j, j < n → os j = true → x k ≤ x j) {os' : Nat → Bool} {x' : Nat → Int}
    (ho : ∀ j, os' j = (os j && j != k)) (hx : ∀ j, j < n → x' j = if os' j && s.hg j then mn (x j) (s.la j (mx (s.t j) (x k))) else x j) : Stand s n os' x' := by
  have hrk := h.op k hk hok
  have same : ∀ j, j < n → os' j = false → x' j = x j := fun j hj hf => by rw [hx j hj, hf]; simp
  have low : ∀ j, j < n → os' j = true → x k ≤ x' j := fun j hj hf => by
    have hj' : os j = true := by
      rw [ho] at hf
      simp at hf
      exact hf.1
    have h1 := hle j hj hj'
    rw [hx j hj]
    split
    · have hxk : x k ≤ 1125899906842624 := by
        cases hg : s.hg k with
        | false => rw [h.own k hk hrk hg]; exact hs.vle _
        | true => rw [h.hang k hk hrk hg]; exact hs.le _ _
      rcases hs.gt j (mx (s.t j) (x k)) with h2 | h2
      · rw [h2]
        unfold mn
        omega
      · unfold mn mx at *
        omega
    · exact h1
  have clo : ∀ i : Nat, i < n → oth (fun j => s.reg j && !os' j) x' (i : Int) n = if k < n ∧ (k : Int) ≠ (i : Int) then mn (oth (fun j => s.reg j && !os j) x (i : Int) n) (x k) else oth (fun j => s.reg j && !os j) x (i : Int) n := fun i hi => by
    rw [oth_congr (reg' := fun j => s.reg j && !os' j) (y := x) (fun _ _ => rfl) (fun j hj hc => same j hj (by simpa using (Bool.and_eq_true_iff.mp hc).2))]
    refine oth_add (by simp [hok]) (fun j => ?_)
    simp only [ho]
    by_cases hjk : j = k
    · subst hjk
      simp [hrk]
    · have e : (j == k) = false := by simp [hjk]
      simp [bne, e]
  refine ⟨fun i hi hf => h.op i hi (by rw [ho] at hf; simp at hf; exact hf.1), fun i hi hr => ?_, fun i hi hr hg => ?_, fun i hi hr hg => ?_, fun i j hi hj hr hi' hj' => ?_⟩
  · rw [same i hi ?_]
    · exact h.no i hi hr
    · rw [ho]
      cases hoi : os i with
      | false => rfl
      | true => rw [h.op i hi hoi] at hr; cases hr
  · rw [hx i hi, hg]
    simp only [Bool.and_false, Bool.false_eq_true, if_false]
    exact h.own i hi hr hg
  · rw [clo i hi]
    have e := h.hang i hi hr hg
    by_cases hik : i = k
    · subst hik
      rw [if_neg (by omega), same i hi (by rw [ho]; simp)]
      exact e
    · rw [if_pos ⟨hk, by omega⟩]
      cases hoi : os i with
      | true =>
        have hoi' : os' i = true := by rw [ho, hoi]; simp [hik]
        rw [hx i hi, hoi', hg, e]
        simp only [Bool.and_self, if_true]
        by_cases hc : mx (s.t i) (mn (s.c i) (oth (fun j => s.reg j && !os j) x (i : Int) n)) ≤ mx (s.t i) (x k)
        · rw [show mx (s.t i) (mn (s.c i) (mn (oth (fun j => s.reg j && !os j) x (i : Int) n) (x k))) = mx (s.t i) (mn (s.c i) (oth (fun j => s.reg j && !os j) x (i : Int) n)) by unfold mx mn at *; omega]
          have := hs.mono i _ _ hc
          unfold mn at *
          omega
        · rw [show mx (s.t i) (mn (s.c i) (mn (oth (fun j => s.reg j && !os j) x (i : Int) n) (x k))) = mx (s.t i) (x k) by unfold mx mn at *; omega]
          have := hs.mono i (mx (s.t i) (x k)) (mx (s.t i) (mn (s.c i) (oth (fun j => s.reg j && !os j) x (i : Int) n))) (by omega)
          unfold mn at *
          omega
      | false =>
        have hoi' : os' i = false := by rw [ho, hoi]; rfl
        rw [same i hi hoi']
        have hik2 := h.ord i k hi hk hr hoi hok
        have hC := oth_le_inf (fun j => s.reg j && !os j) x (i : Int) n
        generalize oth (fun j => s.reg j && !os j) x (i : Int) n = C at *
        by_cases hCx : C ≤ x k
        · rw [e, show mn C (x k) = C by unfold mn; omega]
        · rcases hs.gt i (mx (s.t i) (mn (s.c i) C)) with h2 | h2
          · rw [← e] at h2
            omega
          · rw [← e] at h2
            rw [e]
            congr 1
            unfold mx mn at *
            omega
  · have h2 := low j hj hj'
    rw [same i hi hi']
    by_cases hik : i = k
    · subst hik
      exact h2
    · have hoi : os i = false := by
        rw [ho] at hi'
        simpa [hik] using hi'
      exact Int.le_trans (h.ord i k hi hk hr hoi hok) h2
/-- How many are open. -/
def cnt (os : Nat → Bool) : Nat → Nat
  | 0 => 0
  | n + 1 => cnt os n + (if os n then 1 else 0)
theorem cnt_le (os : Nat → Bool) (n : Nat) : cnt os n ≤ n := by
  induction n with
  | zero => exact Nat.le_refl _
  | succ n ih =>
    rw [cnt]
    split <;> omega
theorem cnt_off {os os' : Nat → Bool} {k : Nat} (ho : ∀ j, os' j = (os j && j != k)) (hok : os k = true) (n : Nat) : (k < n → cnt os' n + 1 = cnt os n) ∧ (n ≤ k → cnt os' n = cnt os n) := by
  induction n with
  | zero => exact ⟨fun h => by omega, fun _ => rfl⟩
  | succ n ih =>
    rw [cnt, cnt, ho n]
    by_cases h : n = k
    · subst h
      have := ih.2 (Nat.le_refl _)
      simp [hok]
      omega
    · have e : (n != k) = true := by simp [h]
      rw [e, Bool.and_true]
      exact ⟨fun hk => by have := ih.1 (by omega); omega, fun hk => by have := ih.2 (by omega); omega⟩
/-! Going down from infinity. -/
def tot (x : Nat → Int) : Nat → Nat
  | 0 => 0
  | n + 1 => tot x n + (x n).toNat
theorem tot_le {x y : Nat → Int} {n : Nat} (h : ∀ j, j < n → x j ≤ y j) : tot x n ≤ tot y n := by
  induction n with
  | zero => exact Nat.le_refl _
  | succ n ih =>
    have h1 := ih (fun j hj => h j (by omega))
    have h2 := h n (by omega)
    rw [tot, tot]
    omega
theorem tot_lt {x y : Nat → Int} {n k : Nat} (h : ∀ j, j < n → x j ≤ y j) (hx : ∀ j, j < n → 0 ≤ x j) (hk : k < n) (hne : x k ≠ y k) : tot x n < tot y n := by
  induction n with
  | zero => omega
  | succ n ih =>
    have h2 := h n (by omega)
    have h3 := hx n (by omega)
    rw [tot, tot]
    by_cases hkn : k = n
    · subst hkn
      have := tot_le (n := k) (fun j hj => h j (by omega))
      omega
    · have := ih (fun j hj => h j (by omega)) (fun j hj => hx j (by omega)) (by omega)
      omega
end Go.Proofs.YtaaaocckfnlgdaaGreatDoorL
