/- 'pacelinelaw18.LbtsNext': whatever the first messages' times, the lookaheads and what is asked for: the law answers true. Conditions: none beyond the form's own reach. -/
import Derived.Test.YteomcpdfbaglaaaPLbtsNextx
import Derived.Test.YteomcpdfbaglaaaLbtsLib
set_option linter.unusedVariables false
set_option linter.unusedSimpArgs false
namespace Go.Proofs.Yteomcpdfbaglaaa.Pure
open Go.RowKit Go.Proofs.Yteomcpdfbaglaaa.PLbtsNext Go.Proofs.YteomcpdfbaglaaaR Go.Proofs.YteomcpdfbaglaaaW.PrintWords Go.Proofs.YteomcpdfbaglaaaW.PrintLast Go.Proofs.YteomcpdfbaglaaaL

/-! ### lbts: what the printed functions come to -/
abbrev Mb := S30
abbrev zM : Mb := z30
abbrev look (m : Mb) : Int := mx 1 (mn m.f3 1048576)
def sysOf (l : List Mb) : Web where
  reg i := (l.getD i zM).f0
  hg i := lbts_Outputs.h0 lbts_Outputs.ow (l.getD i zM)
  v i := lbts_Outputs.la (l.getD i zM) (lbts_Outputs.ow (l.getD i zM)).1
  t i := lbts_Outputs.cl (l.getD i zM).f2
  c i := mn (lbts_Outputs.cl (l.getD i zM).f5) (lbts_Outputs.cl (l.getD i zM).f6)
  la i y := lbts_Outputs.la (l.getD i zM) y
theorem ck_mono {a b : Int} (h : a ≤ b) : lbts_Outputs.ck a ≤ lbts_Outputs.ck b := by
  unfold lbts_Outputs.ck
  repeat' split
  all_goals omega
theorem look_range (m : Mb) : 1 ≤ look m ∧ look m ≤ 1048576 := by
  unfold look mx mn
  repeat' split
  all_goals omega
theorem ck_look (m : Mb) : lbts_Outputs.ck (look m) = look m := by
  have := look_range m
  unfold lbts_Outputs.ck
  rw [if_neg (by omega), if_neg (by omega)]
theorem la_eq (m : Mb) (y : Int) : lbts_Outputs.la m y = lbts_Outputs.ck (lbts_Outputs.ck y + look m) := by
  show lbts_Outputs.ck (lbts_Outputs.ck y + lbts_Outputs.ck (look m)) = _
  rw [ck_look]
theorem la_gt (m : Mb) (y : Int) : lbts_Outputs.la m y = 1125899906842624 ∨ y < lbts_Outputs.la m y := by
  have := look_range m
  rw [la_eq]
  generalize look m = L at *
  unfold lbts_Outputs.ck
  repeat' split
  all_goals omega
theorem la_mono (m : Mb) {y z : Int} (h : y ≤ z) : lbts_Outputs.la m y ≤ lbts_Outputs.la m z := by
  rw [la_eq, la_eq]
  have := ck_mono h
  exact ck_mono (by omega)
theorem la_range (m : Mb) (y : Int) : 0 ≤ lbts_Outputs.la m y ∧ lbts_Outputs.la m y ≤ 1125899906842624 := by
  rw [la_eq]
  exact lbts_Outputs.ck_range _
theorem cl_eq (t : Int) : lbts_Outputs.cl t = lbts_Outputs.ck t := by
  show lbts_Outputs.ck (lbts_Outputs.ck t + lbts_Outputs.ck 0) = _
  rw [show lbts_Outputs.ck 0 = 0 from rfl]
  unfold lbts_Outputs.ck
  repeat' split
  all_goals omega
theorem sysOf_ok (l : List Mb) : (sysOf l).Ok :=
  ⟨fun i y => la_gt _ y, fun i y z h => la_mono _ h, fun i y => (la_range _ y).2, fun i y => (la_range _ y).1, fun i => (la_range _ _).2, fun i => (la_range _ _).1⟩
/-! lbts.Outputs -/
theorem best_tells (os : List Bool) (xs : List Int) (k : Nat) : (lbts_Outputs.best os xs k < 0 → ∀ j, j < k → os.getD j false = false) ∧
    (0 ≤ lbts_Outputs.best os xs k → os.getD (lbts_Outputs.best os xs k).toNat false = true ∧ ∀ j, j < k → os.getD j false = true → xs.getD (lbts_Outputs.best os xs k).toNat 0 ≤ xs.getD j 0) := by
  induction k with
  | zero => exact ⟨fun _ j h => absurd h (by omega), fun h => absurd h (by show ¬ (0 : Int) ≤ -1; omega)⟩
  | succ k ih =>
    rw [lbts_Outputs.best]
    cases ho : os.getD k false with
    | false =>
      simp only [Bool.false_and, Bool.false_eq_true, if_false]
      refine ⟨fun h j hj => ?_, fun h => ⟨(ih.2 h).1, fun j hj hoj => ?_⟩⟩
      · by_cases hjk : j = k
        · rw [hjk]; exact ho
        · exact ih.1 h j (by omega)
      · by_cases hjk : j = k
        · rw [hjk, ho] at hoj; cases hoj
        · exact (ih.2 h).2 j (by omega) hoj
    | true =>
      simp only [Bool.true_and]
      by_cases hc : (decide (lbts_Outputs.best os xs k < 0) || decide (xs.getD k 0 < xs.getD (lbts_Outputs.best os xs k).toNat 0)) = true
      · rw [if_pos hc]
        refine ⟨fun h => by omega, fun _ => ⟨by rw [Int.toNat_natCast]; exact ho, fun j hj hoj => ?_⟩⟩
        rw [Int.toNat_natCast]
        by_cases hjk : j = k
        · rw [hjk]; exact Int.le_refl _
        · by_cases hb : lbts_Outputs.best os xs k < 0
          · rw [ih.1 hb j (by omega)] at hoj; cases hoj
          · have h1 := (ih.2 (by omega)).2 j (by omega) hoj
            simp only [Bool.or_eq_true, decide_eq_true_eq, hb, false_or] at hc
            omega
      · rw [if_neg hc]
        simp only [Bool.or_eq_true, decide_eq_true_eq, not_or] at hc
        refine ⟨fun h => absurd h hc.1, fun h => ⟨(ih.2 h).1, fun j hj hoj => ?_⟩⟩
        by_cases hjk : j = k
        · rw [hjk]; omega
        · exact (ih.2 h).2 j (by omega) hoj
theorem getD_set_int (xs : List Int) (i j : Nat) (v : Int) (hi : i < xs.length) : (xs.set i v).getD j 0 = if i = j then v else xs.getD j 0 := by
  simp only [List.getD_eq_getElem?_getD, List.getElem?_set]
  split
  · simp [hi]
  · rfl
theorem getD_set_off (os : List Bool) (k j : Nat) : (os.set k false).getD j false = (os.getD j false && j != k) := by
  simp only [List.getD_eq_getElem?_getD, List.getElem?_set]
  by_cases h : k = j
  · subst h
    rw [if_pos rfl]
    split <;> simp
  · rw [if_neg h]
    have : (j != k) = true := by simp [Ne.symm h]
    rw [this, Bool.and_true]
theorem relax_tells (l : List Mb) (os hs : List Bool) (i : Nat) (xs : List Int) (hi : os.getD i false = false) (k : Nat) (hk : k ≤ xs.length) :
    (lbts_Outputs.relax lbts_Outputs.la lbts_Outputs.cl l os hs i xs k).length = xs.length ∧
    ∀ j, (lbts_Outputs.relax lbts_Outputs.la lbts_Outputs.cl l os hs i xs k).getD j 0 = if j < k ∧ (os.getD j false && hs.getD j false) = true then mn (xs.getD j 0) (lbts_Outputs.la (l.getD j zM) (mx (lbts_Outputs.cl (l.getD j zM).f2) (xs.getD i 0))) else xs.getD j 0 := by
  induction k with
  | zero => exact ⟨rfl, fun j => by rw [if_neg (by omega)]; rfl⟩
  | succ k ih =>
    obtain ⟨h1, h2⟩ := ih (by omega)
    rw [lbts_Outputs.relax]
    by_cases hc : (os.getD k false && hs.getD k false) = true
    · simp only [hc, if_true]
      have e1 : (lbts_Outputs.relax lbts_Outputs.la lbts_Outputs.cl l os hs i xs k).getD i 0 = xs.getD i 0 := by rw [h2 i, if_neg (by rw [hi]; simp)]
      have e2 : (lbts_Outputs.relax lbts_Outputs.la lbts_Outputs.cl l os hs i xs k).getD k 0 = xs.getD k 0 := by rw [h2 k, if_neg (by omega)]
      rw [e1, e2]
      refine ⟨by rw [List.length_set]; exact h1, fun j => ?_⟩
      rw [getD_set_int _ _ _ _ (by omega)]
      by_cases hjk : k = j
      · subst hjk
        rw [if_pos rfl, if_pos ⟨by omega, hc⟩]
      · rw [if_neg hjk, h2 j]
        by_cases hj : j < k
        · simp only [hj, true_and, show j < k + 1 by omega]
        · rw [if_neg (fun h => hj h.1), if_neg (fun h => by omega)]
    · simp only [hc, Bool.false_eq_true, if_false]
      refine ⟨h1, fun j => ?_⟩
      rw [h2 j]
      by_cases hj : j < k
      · simp only [hj, true_and, show j < k + 1 by omega]
      · rw [if_neg (fun h => hj h.1)]
        by_cases hjk : j = k
        · subst hjk
          rw [if_neg (fun h => hc h.2)]
        · rw [if_neg (fun h => by omega)]
theorem run_tells (l : List Mb) : ∀ (K : Nat) (os : List Bool) (xs : List Int), os.length = l.length → xs.length = l.length → Stand (sysOf l) l.length (fun j => os.getD j false) (fun j => xs.getD j 0) → cnt (fun j => os.getD j false) l.length < K →
    ∃ r, lbts_Outputs.run lbts_Outputs.la lbts_Outputs.cl l (l.map (lbts_Outputs.h0 lbts_Outputs.ow)) K os xs = some r ∧ r.length = l.length ∧ Sol (sysOf l) l.length (fun j => r.getD j 0) := by
  intro K
  induction K with
  | zero => intro os xs _ _ _ h; omega
  | succ K ih =>
    intro os xs ho hx hI hK
    obtain ⟨b1, b2⟩ := best_tells os xs l.length
    have hr := lbts_Outputs.best_range os xs l.length
    rw [lbts_Outputs.run]
    by_cases hb : lbts_Outputs.best os xs l.length < 0
    · rw [if_pos hb]
      exact ⟨xs, rfl, hx, hI.sol (fun i hi => b1 hb i hi)⟩
    · rw [if_neg hb]
      obtain ⟨c1, c2⟩ := b2 (by omega)
      generalize hbk : (lbts_Outputs.best os xs l.length).toNat = k at *
      have hk : k < l.length := by omega
      have hoff : ∀ j, (os.set k false).getD j false = (os.getD j false && j != k) := fun j => getD_set_off os k j
      obtain ⟨r1, r2⟩ := relax_tells l (os.set k false) (l.map (lbts_Outputs.h0 lbts_Outputs.ow)) k xs (by rw [hoff]; simp) l.length (by omega)
      refine ih (os.set k false) _ (by rw [List.length_set]; exact ho) (by rw [r1]; exact hx) ?_ ?_
      · refine hI.step (sysOf_ok l) hk c1 c2 hoff (fun j hj => ?_)
        rw [r2 j]
        have e : (l.map (lbts_Outputs.h0 lbts_Outputs.ow)).getD j false = (sysOf l).hg j := by
          show _ = lbts_Outputs.h0 lbts_Outputs.ow (l.getD j zM)
          rw [List.getD_eq_getElem?_getD, List.getElem?_map, List.getD_eq_getElem?_getD, List.getElem?_eq_getElem hj]
          rfl
        rw [e]
        simp only [hj, true_and]
        rfl
      · have := (cnt_off (os := fun j => os.getD j false) (os' := fun j => (os.set k false).getD j false) hoff c1 l.length).1 hk
        omega
theorem outputs_tells (l : List Mb) (hl : l.length ≤ 1000000) : ∃ r, lbts_Outputs.f l = some r ∧ r.length = l.length ∧ Sol (sysOf l) l.length (fun j => r.getD j 0) := by
  unfold lbts_Outputs.f
  rw [if_pos hl]
  have e1 : ∀ j, j < l.length → (l.map (·.f0)).getD j false = (l.getD j zM).f0 := fun j hj => by
    rw [List.getD_eq_getElem?_getD, List.getElem?_map, List.getD_eq_getElem?_getD, List.getElem?_eq_getElem hj]
    rfl
  have e2 : ∀ j, j < l.length → (l.map (lbts_Outputs.x0 lbts_Outputs.ow lbts_Outputs.la)).getD j 0 = lbts_Outputs.x0 lbts_Outputs.ow lbts_Outputs.la (l.getD j zM) := fun j hj => by
    rw [List.getD_eq_getElem?_getD, List.getElem?_map, List.getD_eq_getElem?_getD, List.getElem?_eq_getElem hj]
    rfl
  have e3 : ∀ j, j < l.length → ((sysOf l).reg j && !(l.map (·.f0)).getD j false) = false := fun j hj => by
    rw [e1 j hj]
    show ((l.getD j zM).f0 && !(l.getD j zM).f0) = false
    cases (l.getD j zM).f0 <;> rfl
  refine run_tells l (l.length + 1) _ _ (by simp) (by simp) ⟨fun i hi h => ?_, fun i hi h => ?_, fun i hi h1 h2 => ?_, fun i hi h1 h2 => ?_, fun i j hi hj h1 h2 h3 => ?_⟩ (Nat.lt_succ_of_le (cnt_le _ _))
  · rw [e1 i hi] at h
    exact h
  · rw [e2 i hi]
    have h' : (l.getD i zM).f0 = false := h
    unfold lbts_Outputs.x0
    rw [h']
    simp
  · rw [e2 i hi]
    have h' : (l.getD i zM).f0 = true := h1
    unfold lbts_Outputs.x0
    rw [h']
    rfl
  · have h' : (l.getD i zM).f0 = true := h1
    have hg : lbts_Outputs.h0 lbts_Outputs.ow (l.getD i zM) = true := h2
    have ex : lbts_Outputs.x0 lbts_Outputs.ow lbts_Outputs.la (l.getD i zM) = lbts_Outputs.la (l.getD i zM) (lbts_Outputs.ow (l.getD i zM)).1 := by
      unfold lbts_Outputs.x0
      rw [h']
      rfl
    unfold lbts_Outputs.h0 at hg
    rw [h'] at hg
    simp only [if_true] at hg
    have hC : oth (fun j => (sysOf l).reg j && !(l.map (·.f0)).getD j false) (fun j => (l.map (lbts_Outputs.x0 lbts_Outputs.ow lbts_Outputs.la)).getD j 0) (i : Int) l.length = 1125899906842624 := by
      rcases oth_cases (fun j => (sysOf l).reg j && !(l.map (·.f0)).getD j false) (fun j => (l.map (lbts_Outputs.x0 lbts_Outputs.ow lbts_Outputs.la)).getD j 0) (i : Int) l.length with h | ⟨j, j1, _, j3, _⟩
      · exact h
      · rw [e3 j j1] at j3
        cases j3
    rw [e2 i hi, ex, hC]
    show lbts_Outputs.la (l.getD i zM) _ = lbts_Outputs.la (l.getD i zM) (mx (lbts_Outputs.cl (l.getD i zM).f2) (mn (mn (lbts_Outputs.cl (l.getD i zM).f5) (lbts_Outputs.cl (l.getD i zM).f6)) 1125899906842624))
    congr 1
    have c5 := lbts_Outputs.ck_range (l.getD i zM).f5
    rw [← cl_eq] at c5
    unfold lbts_Outputs.ow at hg ⊢
    split at hg
    · cases hg
    · rename_i n1
      rw [if_neg n1]
      split at hg
      · rename_i n2
        rw [if_pos n2]
        split at hg
        · rename_i n3
          rw [if_pos n3]
          simp only
          congr 1
          unfold mn
          omega
        · cases hg
      · cases hg
  · have h2' := e3 i hi
    have h1' : (sysOf l).reg i = true := h1
    rw [h1', h2] at h2'
    cases h2'
/-! lbts.Lbts -/
theorem lbts_loop (l : List Mb) (i : Int) (r : List Int) (hl : l.length ≤ 1000000) (hr : r.length = l.length) (d : Nat) : ∀ (k p : Nat), p ≤ l.length → l.length - p = d → d < k →
    lbts_Lbts.l0 k l i (oth (sysOf l).reg (fun j => r.getD j 0) i p) r (r.length : Int) (p : Int) = some (oth (sysOf l).reg (fun j => r.getD j 0) i l.length) := by
  induction d with
  | zero =>
    intro k p h0 hd hk
    obtain ⟨k, rfl⟩ : ∃ m, k = m + 1 := ⟨k - 1, by omega⟩
    simp only [lbts_Lbts.l0]
    rw [if_neg (by omega), show p = l.length by omega]
  | succ d ih =>
    intro k p h0 hd hk
    obtain ⟨k, rfl⟩ : ∃ m, k = m + 1 := ⟨k - 1, by omega⟩
    have hI := ih k (p + 1) (by omega) (by omega) (by omega)
    rw [oth] at hI
    rw [show ((p + 1 : Nat) : Int) = (p : Int) + 1 by omega] at hI
    simp only [lbts_Lbts.l0]
    rw [if_pos (by omega), if_pos (by omega), if_pos (by omega), wrap64_id (by omega) (by omega)]
    have eM : (rd_T30 l (p : Int)).f0 = (sysOf l).reg p := rfl
    rw [show rd r (p : Int) = r.getD p 0 from rfl]
    by_cases hi : (p : Int) = i
    · rw [if_pos hi]
      rw [if_neg (by simp [hi])] at hI
      exact hI
    · rw [if_neg hi, if_pos (by omega), eM]
      cases hg : (sysOf l).reg p with
      | true =>
        rw [if_pos rfl]
        rw [if_pos ⟨hi, hg⟩] at hI
        exact hI
      | false =>
        rw [if_neg (by simp)]
        rw [if_neg (by simp [hg])] at hI
        exact hI
theorem lbts_tells (l : List Mb) (hl : l.length ≤ 1000000) {r : List Int} (hf : lbts_Outputs.f l = some r) (hr : r.length = l.length) (k : Nat) (hk : l.length < k) (i : Int) :
    lbts_Lbts.f k l i = some (oth (sysOf l).reg (fun j => r.getD j 0) i l.length) := by
  unfold lbts_Lbts.f
  rw [hf]
  simp only [Option.bind_some]
  exact lbts_loop l i r hl hr l.length k 0 (by omega) (by omega) hk

theorem lbts_none (k : Nat) (hk : 0 < k) (i : Int) : lbts_Lbts.f k [] i = some 1125899906842624 := by
  obtain ⟨r, e1, e2, _⟩ := outputs_tells [] (by simp)
  rw [lbts_tells [] (by simp) e1 e2 k (by simpa using hk) i]
  rfl

theorem cl_id {t : Int} (h0 : 0 ≤ t) (h1 : t ≤ 1099511627776) : lbts_Outputs.cl t = t := by
  rw [cl_eq]
  unfold lbts_Outputs.ck
  rw [if_neg (by omega), if_neg (by omega)]
theorem above_all (l : List Mb) {f : Int} (hf : f < 1125899906842624) (H : ∀ j, j < l.length → (l.getD j zM).f0 = true ∧ (l.getD j zM).f4 = 2 ∧ (l.getD j zM).f1 = true ∧ f ≤ mn (lbts_Outputs.cl (l.getD j zM).f5) (lbts_Outputs.cl (l.getD j zM).f6))
    {x : Nat → Int} (hs : Sol (sysOf l) l.length x) (i : Int) : f < oth (sysOf l).reg x i l.length := by
  have key : ∀ N : Nat, ∀ j, j < l.length → (x j).toNat = N → f < x j := by
    intro N
    induction N using Nat.strongRecOn with
    | _ N ih =>
      intro j hj hN
      obtain ⟨h1, h2, h3, h4⟩ := H j hj
      have e := hs j hj
      have hg : (sysOf l).hg j = true := by
        show lbts_Outputs.h0 lbts_Outputs.ow (l.getD j zM) = true
        unfold lbts_Outputs.h0 lbts_Outputs.ow
        rw [h1, h2, h3]
        rfl
      have hr : (sysOf l).reg j = true := h1
      unfold Web.F at e
      rw [hr, hg] at e
      simp only [if_true] at e
      have h4' : f ≤ (sysOf l).c j := h4
      rcases (sysOf_ok l).gt j (mx ((sysOf l).t j) (mn ((sysOf l).c j) (oth (sysOf l).reg x (j : Int) l.length))) with h | h
      · rw [← e] at h
        omega
      · rw [← e] at h
        rcases oth_cases (sysOf l).reg x (j : Int) l.length with h5 | ⟨k, k1, k2, k3, k4⟩
        · rw [h5] at h
          have : x j ≤ 1125899906842624 := by rw [e]; exact (sysOf_ok l).le _ _
          unfold mx mn at h
          omega
        · rw [k4] at h
          by_cases hk : x k < x j
          · have hk0 : 0 ≤ x k := by rw [hs k k1]; exact (sysOf_ok l).F_nn _ _ _
            have := ih (x k).toNat (by omega) k k1 rfl
            unfold mx mn at h
            omega
          · unfold mx mn at h
            omega
  rcases oth_cases (sysOf l).reg x i l.length with h | ⟨j, j1, _, _, j4⟩
  · omega
  · rw [j4]
    exact key _ j j1 rfl
section
variable (fs ls : List Int) (ask : Int)
def nxLook (i : Nat) : Int := if i < ls.length then 1 + ls.getD i 0 else 1
def nxA (i : Nat) : Mb := ⟨true, true, 0, nxLook ls i, 2, 100000, fs.getD i 0⟩
def nxB (i : Nat) : Mb := ⟨true, true, 0, nxLook ls i, 2, ask, 1125899906842624⟩
def nxL (n p : Nat) : List Mb := (List.range n).map (fun i => if i < p then nxB ls ask i else nxA fs ls i)
def nxBest : Nat → Nat
  | 0 => 0
  | p + 1 => if fs.getD p 0 < fs.getD (nxBest p) 0 then p else nxBest p
end
theorem nxL_len (fs ls : List Int) (ask : Int) (n p : Nat) : (nxL fs ls ask n p).length = n := by
  unfold nxL
  simp
theorem nxL_getD (fs ls : List Int) (ask : Int) (n p j : Nat) (hj : j < n) : (nxL fs ls ask n p).getD j zM = if j < p then nxB ls ask j else nxA fs ls j := by
  unfold nxL
  rw [List.getD_eq_getElem?_getD, List.getElem?_map, List.getElem?_range hj]
  rfl
theorem ext_getD {l l' : List Mb} (h : l.length = l'.length) (hg : ∀ i, i < l.length → l.getD i zM = l'.getD i zM) : l = l' :=
  List.ext_getElem h fun i a b => by
    have := hg i a
    simpa [List.getD_eq_getElem?_getD, List.getElem?_eq_getElem a, List.getElem?_eq_getElem b] using this
theorem nxL_set (fs ls : List Int) (ask : Int) (n p : Nat) (hp : p < n) : (nxL fs ls ask n p).set p (nxB ls ask p) = nxL fs ls ask n (p + 1) := by
  have hlen : ((nxL fs ls ask n p).set p (nxB ls ask p)).length = n := by rw [List.length_set, nxL_len]
  refine ext_getD (by rw [hlen, nxL_len]) fun i hi => ?_
  rw [hlen] at hi
  rw [nxL_getD _ _ _ _ _ _ hi]
  by_cases h : p = i
  · subst h
    rw [if_pos (by omega), List.getD_eq_getElem?_getD, List.getElem?_set_self (by rw [nxL_len]; exact hp)]
    rfl
  · rw [List.getD_eq_getElem?_getD, List.getElem?_set_ne h, ← List.getD_eq_getElem?_getD, nxL_getD _ _ _ _ _ _ hi]
    by_cases h2 : i < p
    · rw [if_pos h2, if_pos (by omega)]
    · rw [if_neg h2, if_neg (by omega)]
theorem nxL_succ (fs ls : List Int) (ask : Int) (n : Nat) : nxL fs ls ask (n + 1) 0 = nxL fs ls ask n 0 ++ [nxA fs ls n] := by
  unfold nxL
  rw [List.range_succ, List.map_append]
  rfl
theorem nxBest_lt (fs : List Int) (n : Nat) (hn : 0 < n) : nxBest fs n < n := by
  induction n with
  | zero => omega
  | succ n ih =>
    rw [nxBest]
    split
    · omega
    · by_cases h : 0 < n
      · have := ih h
        omega
      · obtain rfl : n = 0 := by omega
        show 0 < 1
        omega
theorem nxBest_le (fs : List Int) (n j : Nat) (hj : j < n) : fs.getD (nxBest fs n) 0 ≤ fs.getD j 0 := by
  induction n with
  | zero => omega
  | succ n ih =>
    rw [nxBest]
    split
    · by_cases h : j = n
      · rw [h]; exact Int.le_refl _
      · have := ih (by omega)
        omega
    · by_cases h : j = n
      · rw [h]; omega
      · exact ih (by omega)
theorem lbts_of (l : List Mb) (hl : l.length ≤ 1000000) (k : Nat) (hk : l.length < k) {f : Int} (hf : f < 1125899906842624) (H : ∀ j, j < l.length → (l.getD j zM).f0 = true ∧ (l.getD j zM).f4 = 2 ∧ (l.getD j zM).f1 = true ∧ f ≤ mn (lbts_Outputs.cl (l.getD j zM).f5) (lbts_Outputs.cl (l.getD j zM).f6)) (i : Int) :
    ∃ v, lbts_Lbts.f k l i = some v ∧ f < v := by
  obtain ⟨r, h1, h2, h3⟩ := outputs_tells l hl
  exact ⟨_, lbts_tells l hl h1 h2 k hk i, above_all l hf H h3 i⟩
section
variable (fs ls : List Int) (ask : Int) (hfs : ∀ j, j < fs.length → 0 ≤ fs.getD j 0 ∧ fs.getD j 0 ≤ 65535) (hls : ∀ j, j < ls.length → 0 ≤ ls.getD j 0 ∧ ls.getD j 0 ≤ 255) (hask : 0 ≤ ask ∧ ask ≤ 65535) (n : Nat) (hn : n ≤ 8) (hnf : n ≤ fs.length) (hn0 : 0 < n)
include hask hn in
theorem nx_l2 (d : Nat) : ∀ (k p : Nat), p ≤ n → n - p = d → 30 + d ≤ k → pacelinelaw18_LbtsNext.l2 k ask (n : Int) (nxL fs ls ask n n) (p : Int) = some true := by
  induction d with
  | zero =>
    intro k p h0 hd hk
    obtain ⟨k, rfl⟩ : ∃ m, k = m + 1 := ⟨k - 1, by omega⟩
    rw [pacelinelaw18_LbtsNext.l2, if_neg (by omega)]
  | succ d ih =>
    intro k p h0 hd hk
    obtain ⟨k, rfl⟩ : ∃ m, k = m + 1 := ⟨k - 1, by omega⟩
    obtain ⟨v, e, hv⟩ := lbts_of (nxL fs ls ask n n) (by rw [nxL_len]; omega) k (by rw [nxL_len]; omega) (f := ask) (by omega) (fun j hj => by
      rw [nxL_len] at hj
      rw [nxL_getD _ _ _ _ _ _ hj, if_pos hj]
      refine ⟨rfl, rfl, rfl, ?_⟩
      show ask ≤ mn (lbts_Outputs.cl ask) (lbts_Outputs.cl 1125899906842624)
      rw [cl_id hask.1 (by omega), show lbts_Outputs.cl 1125899906842624 = 1125899906842624 from rfl]
      unfold mn
      omega) (p : Int)
    rw [pacelinelaw18_LbtsNext.l2, if_pos (by omega), e]
    simp only [Option.bind_some]
    rw [wrap64_id (x := ask) (by omega) (by omega), if_neg (by omega), wrap64_id (by omega) (by omega), show (p : Int) + 1 = ((p + 1 : Nat) : Int) by omega]
    exact ih k (p + 1) (by omega) (by omega) (by omega)
include hask hn in
theorem nx_l1 (d : Nat) : ∀ (k p : Nat), p ≤ n → n - p = d → 60 + d ≤ k → pacelinelaw18_LbtsNext.l1 k ask (n : Int) (nxL fs ls ask n p) (p : Int) = some true := by
  induction d with
  | zero =>
    intro k p h0 hd hk
    obtain ⟨k, rfl⟩ : ∃ m, k = m + 1 := ⟨k - 1, by omega⟩
    rw [pacelinelaw18_LbtsNext.l1, if_neg (by omega), show p = n by omega]
    exact nx_l2 fs ls ask hask n hn n k 0 (by omega) (by omega) (by omega)
  | succ d ih =>
    intro k p h0 hd hk
    obtain ⟨k, rfl⟩ : ∃ m, k = m + 1 := ⟨k - 1, by omega⟩
    have hp : p < n := by omega
    have e : rd_T30 (nxL fs ls ask n p) (p : Int) = nxA fs ls p := by
      show (nxL fs ls ask n p).getD p zM = _
      rw [nxL_getD _ _ _ _ _ _ hp, if_neg (by omega)]
    rw [pacelinelaw18_LbtsNext.l1, if_pos (by omega), if_pos (by omega), if_pos (by rw [nxL_len]; omega), e, Int.toNat_natCast]
    simp only [Option.bind_some]
    have e2 : ∀ y : Mb, rd_T30 ((nxL fs ls ask n p).set p y) (p : Int) = y := fun y => by
      show ((nxL fs ls ask n p).set p y).getD p zM = y
      rw [List.getD_eq_getElem?_getD, List.getElem?_set_self (by rw [nxL_len]; exact hp)]
      rfl
    rw [e2, List.set_set, wrap64_id (x := ask) (by omega) (by omega), wrap64_id (by omega) (by omega)]
    have e3 := nxL_set fs ls ask n p hp
    unfold nxB at e3
    unfold nxA
    simp only
    rw [e3, show (p : Int) + 1 = ((p + 1 : Nat) : Int) by omega]
    exact ih k (p + 1) (by omega) (by omega) (by omega)
include hfs hls hask hn hnf hn0 in
theorem nx_l0 (d : Nat) : ∀ (k p : Nat), p ≤ n → n - p = d → 90 + d ≤ k → pacelinelaw18_LbtsNext.l0 k fs ls ask (n : Int) (nxL fs ls ask p 0) (nxBest fs p : Int) (p : Int) = some true := by
  induction d with
  | zero =>
    intro k p h0 hd hk
    obtain ⟨k, rfl⟩ : ∃ m, k = m + 1 := ⟨k - 1, by omega⟩
    have hbl := nxBest_lt fs n hn0
    have hb := hfs (nxBest fs n) (by omega)
    rw [pacelinelaw18_LbtsNext.l0, if_neg (by omega), show p = n by omega]
    obtain ⟨v, e, hv⟩ := lbts_of (nxL fs ls ask n 0) (by rw [nxL_len]; omega) k (by rw [nxL_len]; omega) (f := fs.getD (nxBest fs n) 0) (by omega) (fun j hj => by
      rw [nxL_len] at hj
      rw [nxL_getD _ _ _ _ _ _ hj, if_neg (by omega)]
      refine ⟨rfl, rfl, rfl, ?_⟩
      show fs.getD (nxBest fs n) 0 ≤ mn (lbts_Outputs.cl 100000) (lbts_Outputs.cl (fs.getD j 0))
      have := hfs j (by omega)
      rw [cl_id this.1 (by omega), cl_id (by omega) (by omega)]
      have := nxBest_le fs n j hj
      unfold mn
      omega) (nxBest fs n : Int)
    rw [e]
    simp only [Option.bind_some]
    rw [if_pos (by omega), if_pos (by omega), show rd fs (nxBest fs n : Int) = fs.getD (nxBest fs n) 0 from rfl, wrap64_id (by omega) (by omega), if_neg (by omega)]
    exact nx_l1 fs ls ask hask n hn n k 0 (by omega) (by omega) (by omega)
  | succ d ih =>
    intro k p h0 hd hk
    obtain ⟨k, rfl⟩ : ∃ m, k = m + 1 := ⟨k - 1, by omega⟩
    have hI := ih k (p + 1) (by omega) (by omega) (by omega)
    have hp : p < n := by omega
    have hf := hfs p (by omega)
    have hbl : nxBest fs p < fs.length := by
      by_cases h : 0 < p
      · have := nxBest_lt fs p h; omega
      · obtain rfl : p = 0 := by omega
        show 0 < fs.length
        omega
    rw [nxL_succ, nxBest, show ((p + 1 : Nat) : Int) = (p : Int) + 1 by omega] at hI
    have hlen := nxL_len fs ls ask p 0
    rw [pacelinelaw18_LbtsNext.l0, if_pos (by omega)]
    by_cases hls' : (p : Int) < (ls.length : Int)
    · have hl := hls p (by omega)
      rw [if_pos hls', if_pos (by omega), if_pos (by omega), if_pos (by omega), show rd fs (p : Int) = fs.getD p 0 from rfl, show rd ls (p : Int) = ls.getD p 0 from rfl, show rd fs (nxBest fs p : Int) = fs.getD (nxBest fs p) 0 from rfl, wrap64_id (x := ls.getD p 0) (by omega) (by omega), wrap64_id (x := 1 + ls.getD p 0) (by omega) (by omega), wrap64_id (x := fs.getD p 0) (by omega) (by omega), wrap64_id (x := (p : Int) + 1) (by omega) (by omega)]
      simp only [Option.bind_some]
      rw [if_pos (by omega), if_pos (by omega)]
      have eA : nxA fs ls p = ⟨true, true, 0, 1 + ls.getD p 0, 2, 100000, fs.getD p 0⟩ := by
        unfold nxA nxLook
        rw [if_pos (by omega)]
      rw [eA] at hI
      by_cases hc : fs.getD p 0 < fs.getD (nxBest fs p) 0
      · rw [if_pos hc]
        rw [if_pos hc] at hI
        exact hI
      · rw [if_neg hc]
        rw [if_neg hc] at hI
        exact hI
    · rw [if_neg hls', if_pos (by omega), if_pos (by omega), if_pos (by omega), show rd fs (p : Int) = fs.getD p 0 from rfl, show rd fs (nxBest fs p : Int) = fs.getD (nxBest fs p) 0 from rfl, wrap64_id (x := fs.getD p 0) (by omega) (by omega), wrap64_id (x := (p : Int) + 1) (by omega) (by omega)]
      simp only [Option.bind_some]
      rw [if_pos (by omega), if_pos (by omega)]
      have eA : nxA fs ls p = ⟨true, true, 0, 1, 2, 100000, fs.getD p 0⟩ := by
        unfold nxA nxLook
        rw [if_neg (by omega)]
      rw [eA] at hI
      by_cases hc : fs.getD p 0 < fs.getD (nxBest fs p) 0
      · rw [if_pos hc]
        rw [if_pos hc] at hI
        exact hI
      · rw [if_neg hc]
        rw [if_neg hc] at hI
        exact hI
end
theorem LbtsNext : pacelinelaw18_LbtsNext.Pure := by
  intro fs ls ask h0 h1 h2
  have hfs : ∀ j, j < fs.length → 0 ≤ fs.getD j 0 ∧ fs.getD j 0 ≤ 65535 := fun j hj => by
    have := wf_u16 (h0.2 (fs[j]) (List.getElem_mem hj))
    rw [List.getD_eq_getElem?_getD, List.getElem?_eq_getElem hj]
    exact this
  have hls : ∀ j, j < ls.length → 0 ≤ ls.getD j 0 ∧ ls.getD j 0 ≤ 255 := fun j hj => by
    have := wf_u8 (h1.2 (ls[j]) (List.getElem_mem hj))
    rw [List.getD_eq_getElem?_getD, List.getElem?_eq_getElem hj]
    exact this
  have hask := wf_u16 h2
  refine ⟨200, ?_⟩
  unfold pacelinelaw18_LbtsNext.f
  by_cases hz : mn (fs.length : Int) 8 = 0
  · rw [if_pos hz, lbts_none 200 (by omega)]
    rfl
  · rw [if_neg hz]
    obtain ⟨n, hn⟩ : ∃ n : Nat, mn (fs.length : Int) 8 = (n : Int) := ⟨(mn (fs.length : Int) 8).toNat, by unfold mn; omega⟩
    have hn' := hn
    unfold mn at hn'
    rw [hn] at hz ⊢
    exact nx_l0 fs ls ask hfs hls hask n (by omega) (by omega) (by omega) n 200 0 (by omega) (by omega) (by omega)

end Go.Proofs.Yteomcpdfbaglaaa.Pure
