/- 'pacelinelaw18.LbtsLater': of whatever members, whichever one is put later by whatever numbers or made to regulate no more: the law answers true. Conditions: none beyond the form's own reach. -/
import Derived.Test.YteomcpdfbaglaaaPLbtsLaterx
import Derived.Test.YteomcpdfbaglaaaLbtsLib
set_option linter.unusedVariables false
set_option linter.unusedSimpArgs false
namespace Go.Proofs.Yteomcpdfbaglaaa.Pure
open Go.RowKit Go.Proofs.Yteomcpdfbaglaaa.PLbtsLater Go.Proofs.YteomcpdfbaglaaaR Go.Proofs.YteomcpdfbaglaaaW.PrintWords Go.Proofs.YteomcpdfbaglaaaW.PrintLast Go.Proofs.YteomcpdfbaglaaaL

/-! ### lbts: what the printed functions come to -/
abbrev Mb := S30
abbrev zM : Mb := z30
abbrev look (m : Mb) : Int := mx 1 (mn m.f3 1048576)
def sysOf (l : List Mb) : Web where
  reg i := (l.getD i zM).f0
  hg i := lbts_Outputs.h0 lbts_Outputs.ow (l.getD i zM)
  v i := lbts_Outputs.la (l.getD i zM) (lbts_Outputs.ow (l.getD i zM)).1
  t i := lbts_Outputs.cl (l.getD i zM).f2
  c i := mn (lbts_Outputs.cl (l.getD i zM).f5) (lbts_Outputs.cl (l.getD i zM).f6)
  la i y := lbts_Outputs.la (l.getD i zM) y
theorem ck_mono {a b : Int} (h : a ≤ b) : lbts_Outputs.ck a ≤ lbts_Outputs.ck b := by
  unfold lbts_Outputs.ck
  repeat' split
  all_goals omega
theorem look_range (m : Mb) : 1 ≤ look m ∧ look m ≤ 1048576 := by
  unfold look mx mn
  repeat' split
  all_goals omega
theorem ck_look (m : Mb) : lbts_Outputs.ck (look m) = look m := by
  have := look_range m
  unfold lbts_Outputs.ck
  rw [if_neg (by omega), if_neg (by omega)]
theorem la_eq (m : Mb) (y : Int) : lbts_Outputs.la m y = lbts_Outputs.ck (lbts_Outputs.ck y + look m) := by
  show lbts_Outputs.ck (lbts_Outputs.ck y + lbts_Outputs.ck (look m)) = _
  rw [ck_look]
theorem la_gt (m : Mb) (y : Int) : lbts_Outputs.la m y = 1125899906842624 ∨ y < lbts_Outputs.la m y := by
  have := look_range m
  rw [la_eq]
  generalize look m = L at *
  unfold lbts_Outputs.ck
  repeat' split
  all_goals omega
theorem la_mono (m : Mb) {y z : Int} (h : y ≤ z) : lbts_Outputs.la m y ≤ lbts_Outputs.la m z := by
  rw [la_eq, la_eq]
  have := ck_mono h
  exact ck_mono (by omega)
theorem la_range (m : Mb) (y : Int) : 0 ≤ lbts_Outputs.la m y ∧ lbts_Outputs.la m y ≤ 1125899906842624 := by
  rw [la_eq]
  exact lbts_Outputs.ck_range _
theorem cl_eq (t : Int) : lbts_Outputs.cl t = lbts_Outputs.ck t := by
  show lbts_Outputs.ck (lbts_Outputs.ck t + lbts_Outputs.ck 0) = _
  rw [show lbts_Outputs.ck 0 = 0 from rfl]
  unfold lbts_Outputs.ck
  repeat' split
  all_goals omega
theorem sysOf_ok (l : List Mb) : (sysOf l).Ok :=
  ⟨fun i y => la_gt _ y, fun i y z h => la_mono _ h, fun i y => (la_range _ y).2, fun i y => (la_range _ y).1, fun i => (la_range _ _).2, fun i => (la_range _ _).1⟩
/-! lbts.Outputs -/
theorem best_tells (os : List Bool) (xs : List Int) (k : Nat) : (lbts_Outputs.best os xs k < 0 → ∀ j, j < k → os.getD j false = false) ∧
    (0 ≤ lbts_Outputs.best os xs k → os.getD (lbts_Outputs.best os xs k).toNat false = true ∧ ∀ j, j < k → os.getD j false = true → xs.getD (lbts_Outputs.best os xs k).toNat 0 ≤ xs.getD j 0) := by
  induction k with
  | zero => exact ⟨fun _ j h => absurd h (by omega), fun h => absurd h (by show ¬ (0 : Int) ≤ -1; omega)⟩
  | succ k ih =>
    rw [lbts_Outputs.best]
    cases ho : os.getD k false with
    | false =>
      simp only [Bool.false_and, Bool.false_eq_true, if_false]
      refine ⟨fun h j hj => ?_, fun h => ⟨(ih.2 h).1, fun j hj hoj => ?_⟩⟩
      · by_cases hjk : j = k
        · rw [hjk]; exact ho
        · exact ih.1 h j (by omega)
      · by_cases hjk : j = k
        · rw [hjk, ho] at hoj; cases hoj
        · exact (ih.2 h).2 j (by omega) hoj
    | true =>
      simp only [Bool.true_and]
      by_cases hc : (decide (lbts_Outputs.best os xs k < 0) || decide (xs.getD k 0 < xs.getD (lbts_Outputs.best os xs k).toNat 0)) = true
      · rw [if_pos hc]
        refine ⟨fun h => by omega, fun _ => ⟨by rw [Int.toNat_natCast]; exact ho, fun j hj hoj => ?_⟩⟩
        rw [Int.toNat_natCast]
        by_cases hjk : j = k
        · rw [hjk]; exact Int.le_refl _
        · by_cases hb : lbts_Outputs.best os xs k < 0
          · rw [ih.1 hb j (by omega)] at hoj; cases hoj
          · have h1 := (ih.2 (by omega)).2 j (by omega) hoj
            simp only [Bool.or_eq_true, decide_eq_true_eq, hb, false_or] at hc
            omega
      · rw [if_neg hc]
        simp only [Bool.or_eq_true, decide_eq_true_eq, not_or] at hc
        refine ⟨fun h => absurd h hc.1, fun h => ⟨(ih.2 h).1, fun j hj hoj => ?_⟩⟩
        by_cases hjk : j = k
        · rw [hjk]; omega
        · exact (ih.2 h).2 j (by omega) hoj
theorem getD_set_int (xs : List Int) (i j : Nat) (v : Int) (hi : i < xs.length) : (xs.set i v).getD j 0 = if i = j then v else xs.getD j 0 := by
  simp only [List.getD_eq_getElem?_getD, List.getElem?_set]
  split
  · simp [hi]
  · rfl
theorem getD_set_off (os : List Bool) (k j : Nat) : (os.set k false).getD j false = (os.getD j false && j != k) := by
  simp only [List.getD_eq_getElem?_getD, List.getElem?_set]
  by_cases h : k = j
  · subst h
    rw [if_pos rfl]
    split <;> simp
  · rw [if_neg h]
    have : (j != k) = true := by simp [Ne.symm h]
    rw [this, Bool.and_true]
theorem relax_tells (l : List Mb) (os hs : List Bool) (i : Nat) (xs : List Int) (hi : os.getD i false = false) (k : Nat) (hk : k ≤ xs.length) :
    (lbts_Outputs.relax lbts_Outputs.la lbts_Outputs.cl l os hs i xs k).length = xs.length ∧
    ∀ j, (lbts_Outputs.relax lbts_Outputs.la lbts_Outputs.cl l os hs i xs k).getD j 0 = if j < k ∧ (os.getD j false && hs.getD j false) = true then mn (xs.getD j 0) (lbts_Outputs.la (l.getD j zM) (mx (lbts_Outputs.cl (l.getD j zM).f2) (xs.getD i 0))) else xs.getD j 0 := by
  induction k with
  | zero => exact ⟨rfl, fun j => by rw [if_neg (by omega)]; rfl⟩
  | succ k ih =>
    obtain ⟨h1, h2⟩ := ih (by omega)
    rw [lbts_Outputs.relax]
    by_cases hc : (os.getD k false && hs.getD k false) = true
    · simp only [hc, if_true]
      have e1 : (lbts_Outputs.relax lbts_Outputs.la lbts_Outputs.cl l os hs i xs k).getD i 0 = xs.getD i 0 := by rw [h2 i, if_neg (by rw [hi]; simp)]
      have e2 : (lbts_Outputs.relax lbts_Outputs.la lbts_Outputs.cl l os hs i xs k).getD k 0 = xs.getD k 0 := by rw [h2 k, if_neg (by omega)]
      rw [e1, e2]
      refine ⟨by rw [List.length_set]; exact h1, fun j => ?_⟩
      rw [getD_set_int _ _ _ _ (by omega)]
      by_cases hjk : k = j
      · subst hjk
        rw [if_pos rfl, if_pos ⟨by omega, hc⟩]
      · rw [if_neg hjk, h2 j]
        by_cases hj : j < k
        · simp only [hj, true_and, show j < k + 1 by omega]
        · rw [if_neg (fun h => hj h.1), if_neg (fun h => by omega)]
    · simp only [hc, Bool.false_eq_true, if_false]
      refine ⟨h1, fun j => ?_⟩
      rw [h2 j]
      by_cases hj : j < k
      · simp only [hj, true_and, show j < k + 1 by omega]
      · rw [if_neg (fun h => hj h.1)]
        by_cases hjk : j = k
        · subst hjk
          rw [if_neg (fun h => hc h.2)]
        · rw [if_neg (fun h => by omega)]
theorem run_tells (l : List Mb) : ∀ (K : Nat) (os : List Bool) (xs : List Int), os.length = l.length → xs.length = l.length → Stand (sysOf l) l.length (fun j => os.getD j false) (fun j => xs.getD j 0) → cnt (fun j => os.getD j false) l.length < K →
    ∃ r, lbts_Outputs.run lbts_Outputs.la lbts_Outputs.cl l (l.map (lbts_Outputs.h0 lbts_Outputs.ow)) K os xs = some r ∧ r.length = l.length ∧ Sol (sysOf l) l.length (fun j => r.getD j 0) := by
  intro K
  induction K with
  | zero => intro os xs _ _ _ h; omega
  | succ K ih =>
    intro os xs ho hx hI hK
    obtain ⟨b1, b2⟩ := best_tells os xs l.length
    have hr := lbts_Outputs.best_range os xs l.length
    rw [lbts_Outputs.run]
    by_cases hb : lbts_Outputs.best os xs l.length < 0
    · rw [if_pos hb]
      exact ⟨xs, rfl, hx, hI.sol (fun i hi => b1 hb i hi)⟩
    · rw [if_neg hb]
      obtain ⟨c1, c2⟩ := b2 (by omega)
      generalize hbk : (lbts_Outputs.best os xs l.length).toNat = k at *
      have hk : k < l.length := by omega
      have hoff : ∀ j, (os.set k false).getD j false = (os.getD j false && j != k) := fun j => getD_set_off os k j
      obtain ⟨r1, r2⟩ := relax_tells l (os.set k false) (l.map (lbts_Outputs.h0 lbts_Outputs.ow)) k xs (by rw [hoff]; simp) l.length (by omega)
      refine ih (os.set k false) _ (by rw [List.length_set]; exact ho) (by rw [r1]; exact hx) ?_ ?_
      · refine hI.step (sysOf_ok l) hk c1 c2 hoff (fun j hj => ?_)
        rw [r2 j]
        have e : (l.map (lbts_Outputs.h0 lbts_Outputs.ow)).getD j false = (sysOf l).hg j := by
          show _ = lbts_Outputs.h0 lbts_Outputs.ow (l.getD j zM)
          rw [List.getD_eq_getElem?_getD, List.getElem?_map, List.getD_eq_getElem?_getD, List.getElem?_eq_getElem hj]
          rfl
        rw [e]
        simp only [hj, true_and]
        rfl
      · have := (cnt_off (os := fun j => os.getD j false) (os' := fun j => (os.set k false).getD j false) hoff c1 l.length).1 hk
        omega
theorem outputs_tells (l : List Mb) (hl : l.length ≤ 1000000) : ∃ r, lbts_Outputs.f l = some r ∧ r.length = l.length ∧ Sol (sysOf l) l.length (fun j => r.getD j 0) := by
  unfold lbts_Outputs.f
  rw [if_pos hl]
  have e1 : ∀ j, j < l.length → (l.map (·.f0)).getD j false = (l.getD j zM).f0 := fun j hj => by
    rw [List.getD_eq_getElem?_getD, List.getElem?_map, List.getD_eq_getElem?_getD, List.getElem?_eq_getElem hj]
    rfl
  have e2 : ∀ j, j < l.length → (l.map (lbts_Outputs.x0 lbts_Outputs.ow lbts_Outputs.la)).getD j 0 = lbts_Outputs.x0 lbts_Outputs.ow lbts_Outputs.la (l.getD j zM) := fun j hj => by
    rw [List.getD_eq_getElem?_getD, List.getElem?_map, List.getD_eq_getElem?_getD, List.getElem?_eq_getElem hj]
    rfl
  have e3 : ∀ j, j < l.length → ((sysOf l).reg j && !(l.map (·.f0)).getD j false) = false := fun j hj => by
    rw [e1 j hj]
    show ((l.getD j zM).f0 && !(l.getD j zM).f0) = false
    cases (l.getD j zM).f0 <;> rfl
  refine run_tells l (l.length + 1) _ _ (by simp) (by simp) ⟨fun i hi h => ?_, fun i hi h => ?_, fun i hi h1 h2 => ?_, fun i hi h1 h2 => ?_, fun i j hi hj h1 h2 h3 => ?_⟩ (Nat.lt_succ_of_le (cnt_le _ _))
  · rw [e1 i hi] at h
    exact h
  · rw [e2 i hi]
    have h' : (l.getD i zM).f0 = false := h
    unfold lbts_Outputs.x0
    rw [h']
    simp
  · rw [e2 i hi]
    have h' : (l.getD i zM).f0 = true := h1
    unfold lbts_Outputs.x0
    rw [h']
    rfl
  · have h' : (l.getD i zM).f0 = true := h1
    have hg : lbts_Outputs.h0 lbts_Outputs.ow (l.getD i zM) = true := h2
    have ex : lbts_Outputs.x0 lbts_Outputs.ow lbts_Outputs.la (l.getD i zM) = lbts_Outputs.la (l.getD i zM) (lbts_Outputs.ow (l.getD i zM)).1 := by
      unfold lbts_Outputs.x0
      rw [h']
      rfl
    unfold lbts_Outputs.h0 at hg
    rw [h'] at hg
    simp only [if_true] at hg
    have hC : oth (fun j => (sysOf l).reg j && !(l.map (·.f0)).getD j false) (fun j => (l.map (lbts_Outputs.x0 lbts_Outputs.ow lbts_Outputs.la)).getD j 0) (i : Int) l.length = 1125899906842624 := by
      rcases oth_cases (fun j => (sysOf l).reg j && !(l.map (·.f0)).getD j false) (fun j => (l.map (lbts_Outputs.x0 lbts_Outputs.ow lbts_Outputs.la)).getD j 0) (i : Int) l.length with h | ⟨j, j1, _, j3, _⟩
      · exact h
      · rw [e3 j j1] at j3
        cases j3
    rw [e2 i hi, ex, hC]
    show lbts_Outputs.la (l.getD i zM) _ = lbts_Outputs.la (l.getD i zM) (mx (lbts_Outputs.cl (l.getD i zM).f2) (mn (mn (lbts_Outputs.cl (l.getD i zM).f5) (lbts_Outputs.cl (l.getD i zM).f6)) 1125899906842624))
    congr 1
    have c5 := lbts_Outputs.ck_range (l.getD i zM).f5
    rw [← cl_eq] at c5
    unfold lbts_Outputs.ow at hg ⊢
    split at hg
    · cases hg
    · rename_i n1
      rw [if_neg n1]
      split at hg
      · rename_i n2
        rw [if_pos n2]
        split at hg
        · rename_i n3
          rw [if_pos n3]
          simp only
          congr 1
          unfold mn
          omega
        · cases hg
      · cases hg
  · have h2' := e3 i hi
    have h1' : (sysOf l).reg i = true := h1
    rw [h1', h2] at h2'
    cases h2'

/-! lbts.Lbts -/
theorem lbts_loop (l : List Mb) (i : Int) (r : List Int) (hl : l.length ≤ 1000000) (hr : r.length = l.length) (d : Nat) : ∀ (k p : Nat), p ≤ l.length → l.length - p = d → d < k →
    lbts_Lbts.l0 k l i (oth (sysOf l).reg (fun j => r.getD j 0) i p) r (r.length : Int) (p : Int) = some (oth (sysOf l).reg (fun j => r.getD j 0) i l.length) := by
  induction d with
  | zero =>
    intro k p h0 hd hk
    obtain ⟨k, rfl⟩ : ∃ m, k = m + 1 := ⟨k - 1, by omega⟩
    simp only [lbts_Lbts.l0]
    rw [if_neg (by omega), show p = l.length by omega]
  | succ d ih =>
    intro k p h0 hd hk
    obtain ⟨k, rfl⟩ : ∃ m, k = m + 1 := ⟨k - 1, by omega⟩
    have hI := ih k (p + 1) (by omega) (by omega) (by omega)
    rw [oth] at hI
    rw [show ((p + 1 : Nat) : Int) = (p : Int) + 1 by omega] at hI
    simp only [lbts_Lbts.l0]
    rw [if_pos (by omega), if_pos (by omega), if_pos (by omega), wrap64_id (by omega) (by omega)]
    have eM : (rd_T30 l (p : Int)).f0 = (sysOf l).reg p := rfl
    rw [show rd r (p : Int) = r.getD p 0 from rfl]
    by_cases hi : (p : Int) = i
    · rw [if_pos hi]
      rw [if_neg (by simp [hi])] at hI
      exact hI
    · rw [if_neg hi, if_pos (by omega), eM]
      cases hg : (sysOf l).reg p with
      | true =>
        rw [if_pos rfl]
        rw [if_pos ⟨hi, hg⟩] at hI
        exact hI
      | false =>
        rw [if_neg (by simp)]
        rw [if_neg (by simp [hg])] at hI
        exact hI
theorem lbts_tells (l : List Mb) (hl : l.length ≤ 1000000) {r : List Int} (hf : lbts_Outputs.f l = some r) (hr : r.length = l.length) (k : Nat) (hk : l.length < k) (i : Int) :
    lbts_Lbts.f k l i = some (oth (sysOf l).reg (fun j => r.getD j 0) i l.length) := by
  unfold lbts_Lbts.f
  rw [hf]
  simp only [Option.bind_some]
  exact lbts_loop l i r hl hr l.length k 0 (by omega) (by omega) hk

/-! ### the reference -/
abbrev Rb := S50
def toR (m : Mb) : Rb := ⟨m.f0, m.f1, m.f2, m.f3, m.f4, m.f5, m.f6⟩
theorem toR_getD (l : List Mb) (p : Nat) (hp : p < l.length) : (l.map toR).getD p z50 = toR (l.getD p zM) := by
  rw [List.getD_eq_getElem?_getD, List.getElem?_map, List.getD_eq_getElem?_getD, List.getElem?_eq_getElem hp]
  rfl
theorem theirs_loop (l : List Mb) (hl : l.length ≤ 1000000) (d : Nat) : ∀ (k p : Nat) (acc : List Rb), p ≤ l.length → acc.length = p → l.length - p = d → d < k →
    pacelinelaw18_theirs.l0 k l acc (p : Int) = some (acc ++ (l.drop p).map toR) := by
  induction d with
  | zero =>
    intro k p acc h0 ha hd hk
    obtain ⟨k, rfl⟩ : ∃ m, k = m + 1 := ⟨k - 1, by omega⟩
    simp only [pacelinelaw18_theirs.l0]
    rw [if_neg (by omega), List.drop_eq_nil_of_le (by omega)]
    simp
  | succ d ih =>
    intro k p acc h0 ha hd hk
    obtain ⟨k, rfl⟩ : ∃ m, k = m + 1 := ⟨k - 1, by omega⟩
    have hlt : p < l.length := by omega
    simp only [pacelinelaw18_theirs.l0]
    rw [if_pos (by omega), if_pos (by omega), if_pos (by omega), wrap64_id (by omega) (by omega), show (p : Int) + 1 = ((p + 1 : Nat) : Int) by omega, ih k (p + 1) _ (by omega) (by simp [ha]) (by omega) (by omega)]
    rw [List.drop_eq_getElem_cons hlt, List.map_cons, List.append_assoc]
    have e : rd_T30 l (p : Int) = l[p] := by
      show l.getD p z30 = l[p]
      rw [List.getD_eq_getElem?_getD, List.getElem?_eq_getElem hlt]
      rfl
    rw [e]
    rfl
theorem theirs_tells (l : List Mb) (hl : l.length ≤ 1000000) (k : Nat) (hk : l.length < k) : pacelinelaw18_theirs.f k l = some (l.map toR) := by
  unfold pacelinelaw18_theirs.f
  exact theirs_loop l hl l.length k 0 [] (by omega) rfl (by omega) hk
theorem rtime_f (t : Int) : pacelineref01_time.f t = some (lbts_Outputs.ck t) := by
  unfold pacelineref01_time.f lbts_Outputs.ck
  repeat' split
  all_goals rfl
theorem radd_f (a b : Int) : pacelineref01_Add.f a b = some (lbts_Outputs.add a b) := by
  have h1 := lbts_Outputs.ck_range a
  have h2 := lbts_Outputs.ck_range b
  unfold pacelineref01_Add.f lbts_Outputs.add
  simp only [rtime_f, Option.bind_some]
  generalize lbts_Outputs.ck a = x at *
  generalize lbts_Outputs.ck b = y at *
  rw [wrap64_id (by omega) (by omega)]
  by_cases e1 : x = 1125899906842624
  · rw [if_pos e1]
    congr 1
    unfold lbts_Outputs.ck
    rw [if_neg (by omega), if_pos (by omega)]
  · rw [if_neg e1]
    by_cases e2 : y = 1125899906842624
    · rw [if_pos e2]
      congr 1
      unfold lbts_Outputs.ck
      rw [if_neg (by omega), if_pos (by omega)]
    · rw [if_neg e2]
theorem rcl_f (t : Int) : pacelineref18_time.f t = some (lbts_Outputs.cl t) := by
  unfold pacelineref18_time.f
  rw [radd_f]
  rfl
theorem rla_f (m : Mb) (t : Int) : pacelineref01_Add.f (mx 1 (mn m.f3 1048576)) t = some (lbts_Outputs.la m t) := by
  rw [radd_f]
  congr 1
  show lbts_Outputs.ck (_ + _) = lbts_Outputs.ck (_ + _)
  rw [Int.add_comm]
theorem rothers_loop (l : List Mb) (i : Int) (x : List Int) (hl : l.length ≤ 1000000) (hx : x.length = l.length) (d : Nat) : ∀ (k p : Nat), p ≤ l.length → l.length - p = d → d < k →
    pacelineref18_others.l0 k (l.map toR) x i (oth (sysOf l).reg (fun j => x.getD j 0) i p) (p : Int) = some (oth (sysOf l).reg (fun j => x.getD j 0) i l.length) := by
  induction d with
  | zero =>
    intro k p h0 hd hk
    obtain ⟨k, rfl⟩ : ∃ m, k = m + 1 := ⟨k - 1, by omega⟩
    simp only [pacelineref18_others.l0, List.length_map]
    rw [if_neg (by omega), show p = l.length by omega]
  | succ d ih =>
    intro k p h0 hd hk
    obtain ⟨k, rfl⟩ : ∃ m, k = m + 1 := ⟨k - 1, by omega⟩
    have hI := ih k (p + 1) (by omega) (by omega) (by omega)
    rw [oth] at hI
    rw [show ((p + 1 : Nat) : Int) = (p : Int) + 1 by omega] at hI
    simp only [pacelineref18_others.l0, List.length_map]
    rw [if_pos (by omega), wrap64_id (by omega) (by omega)]
    have eM : (rd_T50 (l.map toR) (p : Int)).f0 = (sysOf l).reg p := by
      show ((l.map toR).getD p z50).f0 = _
      rw [toR_getD l p (by omega)]
      rfl
    rw [show rd x (p : Int) = x.getD p 0 from rfl]
    by_cases hi : (p : Int) = i
    · rw [if_pos hi]
      rw [if_neg (by simp [hi])] at hI
      exact hI
    · rw [if_neg hi, if_pos (by omega), eM]
      cases hg : (sysOf l).reg p with
      | true =>
        rw [if_pos rfl, if_pos (by omega)]
        rw [if_pos ⟨hi, hg⟩] at hI
        exact hI
      | false =>
        rw [if_neg (by simp)]
        rw [if_neg (by simp [hg])] at hI
        exact hI
theorem rothers (l : List Mb) (i : Int) (x : List Int) (hl : l.length ≤ 1000000) (hx : x.length = l.length) (k : Nat) (hk : l.length < k) :
    pacelineref18_others.f k (l.map toR) x i = some (oth (sysOf l).reg (fun j => x.getD j 0) i l.length) := by
  unfold pacelineref18_others.f
  exact rothers_loop l i x hl hx l.length k 0 (by omega) (by omega) hk
theorem routput (l : List Mb) (x : List Int) (hl : l.length ≤ 1000000) (hx : x.length = l.length) (k p : Nat) (hk : l.length + 3 ≤ k) (hp : p < l.length) :
    pacelineref18_output.f k (l.map toR) x (p : Int) = some ((sysOf l).F l.length (fun j => x.getD j 0) p) := by
  obtain ⟨k, rfl⟩ : ∃ m, k = m + 2 := ⟨k - 2, by omega⟩
  have eM : rd_T50 (l.map toR) (p : Int) = toR (l.getD p zM) := toR_getD l p hp
  have hO := rothers l (p : Int) x hl hx k (by omega)
  have hF : (sysOf l).F l.length (fun j => x.getD j 0) p = if (l.getD p zM).f0 then (if lbts_Outputs.h0 lbts_Outputs.ow (l.getD p zM) then lbts_Outputs.la (l.getD p zM) (mx (lbts_Outputs.cl (l.getD p zM).f2) (mn (mn (lbts_Outputs.cl (l.getD p zM).f5) (lbts_Outputs.cl (l.getD p zM).f6)) (oth (sysOf l).reg (fun j => x.getD j 0) (p : Int) l.length))) else lbts_Outputs.la (l.getD p zM) (lbts_Outputs.ow (l.getD p zM)).1) else 1125899906842624 := rfl
  rw [hF]
  unfold pacelineref18_output.f
  rw [eM]
  simp only [List.length_map]
  rw [if_pos (by omega), if_pos (by omega)]
  generalize oth (sysOf l).reg (fun j => x.getD j 0) (p : Int) l.length = L at *
  clear eM hF
  generalize l.getD p zM = m at *
  generalize l.map toR = R at *
  unfold toR
  simp only [rcl_f, Option.bind_some]
  cases hr : m.f0 with
  | false => simp
  | true =>
    simp only [if_true]
    unfold lbts_Outputs.h0 lbts_Outputs.ow
    by_cases h1 : m.f4 = 1
    · simp only [h1, if_true, hr, pacelineref18_output.j0, rcl_f, rla_f, Option.bind_some, Bool.false_eq_true, if_false]
    · by_cases h2 : m.f4 = 2
      · cases h3 : m.f1 with
        | true => simp [h2, hr, h3, pacelineref18_output.j0, pacelineref18_output.j1, rcl_f, rla_f, hO]
        | false => simp [h2, hr, h3, pacelineref18_output.j0, pacelineref18_output.j1, rcl_f, rla_f]
      · by_cases h3 : m.f4 = 3
        · cases h4 : m.f1 with
          | true => simp [h3, hr, h4, pacelineref18_output.j0, pacelineref18_output.j1, rcl_f, rla_f, hO]
          | false => simp [h3, hr, h4, pacelineref18_output.j0, pacelineref18_output.j1, rcl_f, rla_f]
        · simp [h1, h2, h3, hr, pacelineref18_output.j0, pacelineref18_output.j1, rla_f]
def sm (l : List Mb) (x : List Int) : Nat → Bool
  | 0 => true
  | p + 1 => if sm l x p then ((sysOf l).F l.length (fun j => x.getD j 0) p == x.getD p 0) else false
theorem sm_iff (l : List Mb) (x : List Int) (p : Nat) : sm l x p = true ↔ ∀ j, j < p → (sysOf l).F l.length (fun j => x.getD j 0) j = x.getD j 0 := by
  induction p with
  | zero => exact ⟨fun _ j h => by omega, fun _ => rfl⟩
  | succ p ih =>
    rw [sm]
    cases hs : sm l x p with
    | false =>
      simp only [Bool.false_eq_true, if_false, false_iff]
      intro h
      have := ih.mpr (fun j hj => h j (by omega))
      rw [hs] at this
      cases this
    | true =>
      simp only [if_true, beq_iff_eq]
      have h0 := ih.mp hs
      exact ⟨fun h j hj => by
        by_cases hjp : j = p
        · rw [hjp]; exact h
        · exact h0 j (by omega), fun h => h p (by omega)⟩
def now (l : List Mb) (x : List Int) (p : Nat) : List Int := (List.range p).map (fun i => (sysOf l).F l.length (fun j => x.getD j 0) i)
theorem now_getD (l : List Mb) (x : List Int) (p j : Nat) (hj : j < p) : (now l x p).getD j 0 = (sysOf l).F l.length (fun j => x.getD j 0) j := by
  unfold now
  rw [List.getD_eq_getElem?_getD, List.getElem?_map, List.getElem?_range hj]
  rfl
theorem rout_l2 (l : List Mb) (x : List Int) (hl : l.length ≤ 1000000) (hx : x.length = l.length) (d : Nat) : ∀ (k p : Nat), p ≤ l.length → l.length - p = d → l.length + 3 ≤ k →
    pacelineref18_Outputs.l2 (k + d + 1) (l.map toR) x (now l x p) (sm l x p) (p : Int) = if sm l x l.length then some (now l x l.length) else pacelineref18_Outputs.l1 k (l.map toR) (now l x l.length) := by
  induction d with
  | zero =>
    intro k p h0 hd hk
    simp only [Nat.add_zero, pacelineref18_Outputs.l2, List.length_map]
    rw [if_neg (by omega), show p = l.length by omega]
  | succ d ih =>
    intro k p h0 hd hk
    have hI := ih k (p + 1) (by omega) (by omega) hk
    have hn : (now l x p).length < 17592186044416 := by
      unfold now
      rw [List.length_map, List.length_range]
      omega
    have e1 : now l x (p + 1) = now l x p ++ [(sysOf l).F l.length (fun j => x.getD j 0) p] := by
      unfold now
      rw [List.range_succ, List.map_append]
      rfl
    rw [show ((p + 1 : Nat) : Int) = (p : Int) + 1 by omega, e1, sm] at hI
    rw [show k + (d + 1) + 1 = (k + d + 1) + 1 by omega]
    obtain ⟨K, hK⟩ : ∃ K, K = k + d + 1 := ⟨_, rfl⟩
    rw [← hK] at hI ⊢
    simp only [pacelineref18_Outputs.l2, List.length_map]
    rw [if_pos (by omega), routput l x hl hx K p (by omega) (by omega)]
    simp only [Option.bind_some]
    rw [wrap64_id (by omega) (by omega), show rd x (p : Int) = x.getD p 0 from rfl]
    cases hs : sm l x p with
    | true =>
      rw [hs] at hI
      simp only [if_true] at hI ⊢
      rw [if_pos (by omega), if_pos (by omega), if_pos hn]
      exact hI
    | false =>
      rw [hs] at hI
      simp only [Bool.false_eq_true, if_false] at hI ⊢
      rw [if_pos hn]
      exact hI
theorem rout_l1 (l : List Mb) (x : List Int) (hl : l.length ≤ 1000000) (hx : x.length = l.length) (k : Nat) (hk : l.length + 3 ≤ k) :
    pacelineref18_Outputs.l1 (k + l.length + 2) (l.map toR) x = if sm l x l.length then some (now l x l.length) else pacelineref18_Outputs.l1 k (l.map toR) (now l x l.length) := by
  rw [show k + l.length + 2 = (k + l.length + 1) + 1 by omega]
  simp only [pacelineref18_Outputs.l1]
  exact rout_l2 l x hl hx l.length k 0 (by omega) (by omega) hk
theorem F_congr {s : Web} (hs : s.Ok) {n : Nat} {x y : Nat → Int} (h : ∀ j, j < n → x j = y j) (i : Nat) : s.F n x i = s.F n y i :=
  Int.le_antisymm (hs.F_mono (fun j hj => by rw [h j hj]; exact Int.le_refl _) i) (hs.F_mono (fun j hj => by rw [h j hj]; exact Int.le_refl _) i)
theorem rout_down (l : List Mb) (hl : l.length ≤ 1000000) (S : Nat) : ∀ (x : List Int), x.length = l.length → (∀ j, j < l.length → (sysOf l).F l.length (fun j => x.getD j 0) j ≤ x.getD j 0) → tot (fun j => x.getD j 0) l.length = S →
    ∀ k, (S + 1) * (l.length + 2) + l.length + 3 ≤ k → ∃ r, pacelineref18_Outputs.l1 k (l.map toR) x = some r ∧ r.length = l.length ∧ Sol (sysOf l) l.length (fun j => r.getD j 0) := by
  induction S using Nat.strongRecOn with
  | _ S ih =>
    intro x hx hpre hS k hk
    have hok := sysOf_ok l
    have hmul : (S + 1) * (l.length + 2) = S * (l.length + 2) + (l.length + 2) := Nat.succ_mul _ _
    obtain ⟨k, rfl⟩ : ∃ m, k = m + l.length + 2 := ⟨k - (l.length + 2), by omega⟩
    have hnl : (now l x l.length).length = l.length := by unfold now; simp
    rw [rout_l1 l x hl hx k (by omega)]
    by_cases hs : sm l x l.length = true
    · rw [if_pos hs]
      have h := (sm_iff l x l.length).mp hs
      refine ⟨_, rfl, hnl, fun i hi => ?_⟩
      simp only
      rw [now_getD l x _ i hi]
      exact F_congr hok (fun j hj => by rw [now_getD l x _ j hj, h j hj]) i
    · rw [if_neg hs]
      have hne : ∃ j, j < l.length ∧ (sysOf l).F l.length (fun j => x.getD j 0) j ≠ x.getD j 0 := by
        refine Classical.byContradiction fun hno => hs ((sm_iff l x l.length).mpr fun j hj => Classical.byContradiction fun hj' => hno ⟨j, hj, hj'⟩)
      obtain ⟨j0, j1, j2⟩ := hne
      have hlt : tot (fun j => (now l x l.length).getD j 0) l.length < S := by
        rw [← hS]
        refine tot_lt (k := j0) (fun j hj => ?_) (fun j hj => ?_) j1 ?_
        · rw [now_getD l x _ j hj]
          exact hpre j hj
        · rw [now_getD l x _ j hj]
          exact hok.F_nn _ _ _
        · rw [now_getD l x _ j0 j1]
          exact j2
      refine ih _ hlt (now l x l.length) hnl (fun j hj => ?_) rfl k ?_
      · rw [now_getD l x _ j hj]
        exact hok.F_mono (fun i hi => by rw [now_getD l x _ i hi]; exact hpre i hi) j
      · have : (tot (fun j => (now l x l.length).getD j 0) l.length + 1) * (l.length + 2) ≤ S * (l.length + 2) := Nat.mul_le_mul_right _ hlt
        omega
theorem rout_l0 (l : List Mb) (hl : l.length ≤ 1000000) (d : Nat) : ∀ (k p : Nat), p ≤ l.length → l.length - p = d →
    pacelineref18_Outputs.l0 (k + d + 1) (l.map toR) (List.replicate p 1125899906842624) (p : Int) = pacelineref18_Outputs.l1 k (l.map toR) (List.replicate l.length 1125899906842624) := by
  induction d with
  | zero =>
    intro k p h0 hd
    simp only [Nat.add_zero, pacelineref18_Outputs.l0, List.length_map]
    rw [if_neg (by omega), show p = l.length by omega]
  | succ d ih =>
    intro k p h0 hd
    have hI := ih k (p + 1) (by omega) (by omega)
    rw [List.replicate_succ', show ((p + 1 : Nat) : Int) = (p : Int) + 1 by omega] at hI
    rw [show k + (d + 1) + 1 = (k + d + 1) + 1 by omega]
    obtain ⟨K, hK⟩ : ∃ K, K = k + d + 1 := ⟨_, rfl⟩
    rw [← hK] at hI ⊢
    simp only [pacelineref18_Outputs.l0, List.length_map, List.length_replicate]
    rw [if_pos (by omega), if_pos (by omega), wrap64_id (by omega) (by omega)]
    exact hI
theorem sol_same (l : List Mb) {r r' : List Int} (h1 : r.length = l.length) (h2 : r'.length = l.length) (h : Sol (sysOf l) l.length (fun j => r.getD j 0)) (h' : Sol (sysOf l) l.length (fun j => r'.getD j 0)) : r = r' := by
  refine List.ext_getElem (by omega) fun i a b => ?_
  have := Sol.one (sysOf_ok l) h h' i (by omega)
  simpa [List.getD_eq_getElem?_getD, List.getElem?_eq_getElem a, List.getElem?_eq_getElem b] using this
theorem routputs (l : List Mb) (hl : l.length ≤ 1000000) {r : List Int} (h1 : r.length = l.length) (h : Sol (sysOf l) l.length (fun j => r.getD j 0)) : ∃ K : Nat, ∀ k, K ≤ k → pacelineref18_Outputs.f k (l.map toR) = some r := by
  obtain ⟨S, hS⟩ : ∃ S, tot (fun j => (List.replicate l.length (1125899906842624 : Int)).getD j 0) l.length = S := ⟨_, rfl⟩
  refine ⟨(S + 1) * (l.length + 2) + l.length + 3 + l.length + 1, fun k hk => ?_⟩
  obtain ⟨k, rfl⟩ : ∃ m, k = m + l.length + 1 := ⟨k - (l.length + 1), by omega⟩
  unfold pacelineref18_Outputs.f
  have e := rout_l0 l hl l.length k 0 (by omega) (by omega)
  rw [show List.replicate 0 (1125899906842624 : Int) = [] from rfl, show ((0 : Nat) : Int) = 0 from rfl] at e
  rw [e]
  obtain ⟨r', e1, e2, e3⟩ := rout_down l hl S (List.replicate l.length 1125899906842624) (by simp) (fun j hj => by
    rw [List.getD_eq_getElem?_getD, List.getElem?_eq_getElem (by simpa using hj)]
    simp only [List.getElem_replicate, Option.getD_some]
    exact (sysOf_ok l).F_le _ _ _) hS k (by omega)
  rw [e1, sol_same l h1 e2 h e3]

theorem rlbts (l : List Mb) (hl : l.length ≤ 1000000) {r : List Int} (h1 : r.length = l.length) (k : Nat) (hf : pacelineref18_Outputs.f k (l.map toR) = some r) (hk : l.length < k) (i : Int) :
    pacelineref18_Lbts.f k (l.map toR) i = some (oth (sysOf l).reg (fun j => r.getD j 0) i l.length) := by
  unfold pacelineref18_Lbts.f
  rw [hf]
  simp only [Option.bind_some]
  rw [rothers l i r hl h1 k hk]
  rfl

theorem lbts_none (k : Nat) (hk : 0 < k) (i : Int) : lbts_Lbts.f k [] i = some 1125899906842624 := by
  obtain ⟨r, e1, e2, _⟩ := outputs_tells [] (by simp)
  rw [lbts_tells [] (by simp) e1 e2 k (by simpa using hk) i]
  rfl

theorem oth_le2 {A B : Nat → Bool} {x y : Nat → Int} {n : Nat} {i : Int} (hr : ∀ j, j < n → B j = true → A j = true) (h : ∀ j, j < n → x j ≤ y j) : oth A x i n ≤ oth B y i n := by
  rcases oth_cases B y i n with e | ⟨j, j1, j2, j3, j4⟩
  · rw [e]
    exact oth_le_inf _ _ _ _
  · rw [j4]
    exact Int.le_trans (oth_le j1 j2 (hr j j1 j3)) (h j j1)
theorem ck_ck (t : Int) : lbts_Outputs.ck (lbts_Outputs.ck t) = lbts_Outputs.ck t := by
  unfold lbts_Outputs.ck
  repeat' split
  all_goals omega
theorem cl_add_le (a b : Int) : lbts_Outputs.cl a ≤ lbts_Outputs.cl (lbts_Outputs.add a b) := by
  rw [cl_eq, cl_eq]
  show lbts_Outputs.ck a ≤ lbts_Outputs.ck (lbts_Outputs.ck (lbts_Outputs.ck a + lbts_Outputs.ck b))
  rw [ck_ck]
  have := lbts_Outputs.ck_range b
  rw [← ck_ck a]
  rw [ck_ck]
  have h := ck_mono (a := lbts_Outputs.ck a) (b := lbts_Outputs.ck a + lbts_Outputs.ck b) (by omega)
  rw [ck_ck] at h
  exact h
/-- m' is m, put later. -/
structure Later (m m' : Mb) : Prop where
  reg : m'.f0 = true → m.f0 = true
  con : m'.f1 = m.f1
  kind : m'.f4 = m.f4
  t : lbts_Outputs.cl m.f2 ≤ lbts_Outputs.cl m'.f2
  ask : lbts_Outputs.cl m.f5 ≤ lbts_Outputs.cl m'.f5
  first : lbts_Outputs.cl m.f6 ≤ lbts_Outputs.cl m'.f6
  look : look m ≤ look m'
theorem Later.refl (m : Mb) : Later m m := ⟨fun h => h, rfl, rfl, Int.le_refl _, Int.le_refl _, Int.le_refl _, Int.le_refl _⟩
theorem Later.la {m m' : Mb} (h : Later m m') {y z : Int} (hy : y ≤ z) : lbts_Outputs.la m y ≤ lbts_Outputs.la m' z := by
  rw [la_eq, la_eq]
  have h1 := ck_mono hy
  have h2 := h.look
  exact ck_mono (by omega)
theorem Later.own {m m' : Mb} (h : Later m m') : (lbts_Outputs.ow m).1 ≤ (lbts_Outputs.ow m').1 ∧ (lbts_Outputs.ow m).2 = (lbts_Outputs.ow m').2 := by
  have h1 := h.t
  have h2 := h.ask
  have h3 := h.first
  unfold lbts_Outputs.ow
  rw [h.kind, h.con]
  by_cases k1 : m.f4 = 1
  · rw [if_pos k1, if_pos k1]
    exact ⟨h2, rfl⟩
  · rw [if_neg k1, if_neg k1]
    by_cases k2 : m.f4 = 2 ∨ m.f4 = 3
    · rw [if_pos k2, if_pos k2]
      cases m.f1 with
      | true =>
        refine ⟨?_, rfl⟩
        simp only [if_true]
        unfold mx mn
        repeat' split
        all_goals omega
      | false => exact ⟨by simpa using h2, rfl⟩
    · rw [if_neg k2, if_neg k2]
      exact ⟨h1, rfl⟩
theorem later_le (l m : List Mb) (n : Nat) (H : ∀ j, j < n → Later (l.getD j zM) (m.getD j zM)) {x y : Nat → Int} (hx : Sol (sysOf l) n x) (hy : Sol (sysOf m) n y) (i : Int) :
    oth (sysOf l).reg x i n ≤ oth (sysOf m).reg y i n := by
  refine oth_le2 (fun j hj h => (H j hj).reg h) (Sol.le (sysOf_ok l) (sysOf_ok m) hx hy (fun j hj h => (H j hj).reg h) (fun j hj h => ?_) (fun j hj h => (H j hj).la (H j hj).own.1) (fun j hj h => (H j hj).t) (fun j hj h => ?_) (fun j hj h z => (H j hj).la (Int.le_refl _)))
  · show lbts_Outputs.h0 lbts_Outputs.ow (l.getD j zM) = lbts_Outputs.h0 lbts_Outputs.ow (m.getD j zM)
    have h1 : (m.getD j zM).f0 = true := h
    unfold lbts_Outputs.h0
    rw [h1, (H j hj).reg h1, (H j hj).own.2]
  · show mn (lbts_Outputs.cl (l.getD j zM).f5) (lbts_Outputs.cl (l.getD j zM).f6) ≤ mn (lbts_Outputs.cl (m.getD j zM).f5) (lbts_Outputs.cl (m.getD j zM).f6)
    have h2 := (H j hj).ask
    have h3 := (H j hj).first
    unfold mn
    repeat' split
    all_goals omega
theorem later_loop (l m : List Mb) (hl : l.length ≤ 20) (hm : m.length = l.length) (H : ∀ j, j < l.length → Later (l.getD j zM) (m.getD j zM)) {r q : List Int} (hf : lbts_Outputs.f l = some r) (hr : r.length = l.length) (hs : Sol (sysOf l) l.length (fun j => r.getD j 0))
    (hg : lbts_Outputs.f m = some q) (hq : q.length = l.length) (ht : Sol (sysOf m) l.length (fun j => q.getD j 0)) (K : Nat) (hK : ∀ k, K ≤ k → pacelineref18_Outputs.f k (l.map toR) = some r) (d : Nat) : ∀ (k p : Nat), p ≤ l.length → l.length - p = d → K + 50 + d ≤ k →
    pacelinelaw18_LbtsLater.l0 k l m (p : Int) = some true := by
  induction d with
  | zero =>
    intro k p h0 hd hk
    obtain ⟨k, rfl⟩ : ∃ m, k = m + 1 := ⟨k - 1, by omega⟩
    rw [pacelinelaw18_LbtsLater.l0, if_neg (by omega)]
  | succ d ih =>
    intro k p h0 hd hk
    obtain ⟨k, rfl⟩ : ∃ m, k = m + 1 := ⟨k - 1, by omega⟩
    have hle := later_le l m l.length H hs ht (p : Int)
    have e2 := lbts_tells m (by omega) hg (by omega) k (by omega) (p : Int)
    rw [hm] at e2
    rw [pacelinelaw18_LbtsLater.l0, if_pos (by omega), e2, lbts_tells l (by omega) hf hr k (by omega)]
    simp only [Option.bind_some]
    rw [if_neg (by omega), theirs_tells l (by omega) k (by omega)]
    simp only [Option.bind_some]
    rw [rlbts l (by omega) hr k (hK k (by omega)) (by omega)]
    simp only [Option.bind_some]
    first | rw [if_pos rfl] | rw [if_pos trivial] | rw [if_neg (by simp)]
    rw [wrap64_id (by omega) (by omega), show (p : Int) + 1 = ((p + 1 : Nat) : Int) by omega]
    exact ih k (p + 1) (by omega) (by omega) (by omega)
theorem set_getD (l : List Mb) (c j : Nat) (x : Mb) (hc : c < l.length) : (l.set c x).getD j zM = if c = j then x else l.getD j zM := by
  simp only [List.getD_eq_getElem?_getD, List.getElem?_set]
  split
  · simp [hc]
  · rfl
theorem later_whole (l : List Mb) (hl : l.length ≤ 20) (c : Nat) (hc : c < l.length) (x' : Mb) (hx : Later (l.getD c zM) x') : ∃ K : Nat, ∀ k, K ≤ k → pacelinelaw18_LbtsLater.l0 k l (l.set c x') 0 = some true := by
  obtain ⟨r, hf, hr, hs⟩ := outputs_tells l (by omega)
  obtain ⟨q, hg, hq, ht⟩ := outputs_tells (l.set c x') (by rw [List.length_set]; omega)
  rw [List.length_set] at hq ht
  obtain ⟨K, hK⟩ := routputs l (by omega) hr hs
  refine ⟨K + 100, fun k hk => later_loop l (l.set c x') hl (by rw [List.length_set]) (fun j hj => ?_) hf hr hs hg hq ht K hK l.length k 0 (by omega) (by omega) (by omega)⟩
  rw [set_getD l c j x' hc]
  split
  · rename_i h
    rw [← h]
    exact hx
  · exact Later.refl _
theorem LbtsLater : pacelinelaw18_LbtsLater.Pure := by
  intro l at_ b0 b1 b2 b3 gone h0 w1 v0 v1 v2 v3
  have hat := wf_u8 w1
  have hb0 := wf_u16 v0
  have hb1 := wf_u16 v1
  have hb2 := wf_u16 v2
  have hb3 := wf_u16 v3
  unfold pacelinelaw18_LbtsLater.f
  by_cases hbig : (l.length : Int) > 20
  · refine ⟨5, ?_⟩
    rw [if_pos hbig, pacelinelaw18_LbtsLater.j0, if_pos rfl, lbts_none 4 (by omega)]
    rfl
  · by_cases hz : (l.length : Int) = 0
    · refine ⟨5, ?_⟩
      rw [if_neg hbig, pacelinelaw18_LbtsLater.j0, if_pos (by simpa using hz), lbts_none 4 (by omega)]
      rfl
    · obtain ⟨c, ec, hc⟩ : ∃ c : Nat, Int.tmod (wrap64 at_) (l.length : Int) = (c : Int) ∧ c < l.length := by
        rw [wrap64_id (by omega) (by omega), tmod_nonneg hat.1]
        have e1 := Int.emod_nonneg at_ hz
        have e2 := Int.emod_lt_of_pos at_ (show (0 : Int) < (l.length : Int) by omega)
        exact ⟨(at_ % (l.length : Int)).toNat, by omega, by omega⟩
      have hlk := look_range (l.getD c zM)
      obtain ⟨K, hK⟩ := later_whole l (by omega) c hc ⟨if gone = true then false else (l.getD c zM).f0, (l.getD c zM).f1, lbts_Outputs.add (l.getD c zM).f2 b0, mx 1 (mn (l.getD c zM).f3 1048576) + b3, (l.getD c zM).f4, lbts_Outputs.add (l.getD c zM).f5 b1, lbts_Outputs.add (l.getD c zM).f6 b2⟩
        ⟨fun h => by cases gone <;> simp_all, rfl, rfl, cl_add_le _ _, cl_add_le _ _, cl_add_le _ _, by
          unfold look at hlk ⊢
          simp only
          generalize mx 1 (mn (l.getD c zM).f3 1048576) = L at *
          unfold mx mn
          repeat' split
          all_goals omega⟩
      refine ⟨(K + 1) + 1, ?_⟩
      rw [if_neg hbig, pacelinelaw18_LbtsLater.j0, if_neg (by simpa using hz), if_neg hz, ec]
      simp only [Option.bind_some, List.nil_append, List.length_nil]
      rw [if_pos (by omega), if_pos (by omega), if_pos (by omega), show rd_T30 l (c : Int) = l.getD c zM from rfl]
      have hmx : mx 1 (mn (l.getD c zM).f3 1048576) = look (l.getD c zM) := rfl
      rw [wrap64_id (x := b0) (by omega) (by omega), wrap64_id (x := b1) (by omega) (by omega), wrap64_id (x := b2) (by omega) (by omega), wrap64_id (x := b3) (by omega) (by omega), wrap64_id (x := mx 1 (mn (l.getD c zM).f3 1048576) + b3) (by omega) (by omega), radd_f, radd_f, radd_f]
      simp only [Option.bind_some]
      have hk := hK K (Nat.le_refl _)
      cases gone with
      | true =>
        rw [if_pos rfl, pacelinelaw18_LbtsLater.j1, if_pos (by omega), if_pos (by omega), Int.toNat_natCast]
        simpa using hk
      | false =>
        rw [if_neg (by simp), pacelinelaw18_LbtsLater.j1, if_pos (by omega), if_pos (by omega), Int.toNat_natCast]
        simpa using hk

end Go.Proofs.Yteomcpdfbaglaaa.Pure
