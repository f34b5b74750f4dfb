/- Plain: the bound of two federates. -/
import Derived.Test.YtaaaocckfnlgdaaGreatDoorLbtsLib
import Derived.Test.YtaaaocckfnlgdaaGreatDoorRtiB
namespace Go.Proofs.YtaaaocckfnlgdaaGreatDoorT
open Go.RowKit Go.Proofs.YtaaaocckfnlgdaaGreatDoorW.PrintWords Go.Proofs.YtaaaocckfnlgdaaGreatDoorW.PrintMore Go.Proofs.YtaaaocckfnlgdaaGreatDoorL Go.Proofs.YtaaaocckfnlgdaaGreatDoor.PBase
set_option linter.unusedVariables false
set_option linter.unusedSimpArgs false
theorem wrap64_id {n : Int} (h1 : -9223372036854775808 ≤ n) (h2 : n ≤ 9223372036854775807) : wrap64 n = n := by unfold wrap64; omega
/-! ### lbts: what the printed functions come to -/
abbrev Mb := S108
abbrev zM : Mb := z108
abbrev look (m : Mb) : Int := mx 1 (mn m.f3 1048576)
def sysOf (l : List Mb) : Web where
  reg i := (l.getD i zM).f0
  hg i := lbts_Outputs.h0 lbts_Outputs.ow (l.getD i zM)
  v i := lbts_Outputs.la (l.getD i zM) (lbts_Outputs.ow (l.getD i zM)).1
  t i := lbts_Outputs.cl (l.getD i zM).f2
  c i := mn (lbts_Outputs.cl (l.getD i zM).f5) (lbts_Outputs.cl (l.getD i zM).f6)
  la i y := lbts_Outputs.la (l.getD i zM) y
theorem ck_mono {a b : Int} (h : a ≤ b) : lbts_Outputs.ck a ≤ lbts_Outputs.ck b := by
  unfold lbts_Outputs.ck
  repeat' split
  all_goals omega
theorem look_range (m : Mb) : 1 ≤ look m ∧ look m ≤ 1048576 := by
  unfold look mx mn
  repeat' split
  all_goals omega
theorem ck_look (m : Mb) : lbts_Outputs.ck (look m) = look m := by
  have := look_range m
  unfold lbts_Outputs.ck
  rw [if_neg (by omega), if_neg (by omega)]
theorem la_eq (m : Mb) (y : Int) : lbts_Outputs.la m y = lbts_Outputs.ck (lbts_Outputs.ck y + look m) := by
  show lbts_Outputs.ck (lbts_Outputs.ck y + lbts_Outputs.ck (look m)) = _
  rw [ck_look]
theorem la_gt (m : Mb) (y : Int) : lbts_Outputs.la m y = 1125899906842624 ∨ y < lbts_Outputs.la m y := by
  have := look_range m
  rw [la_eq]
  generalize look m = L at *
  unfold lbts_Outputs.ck
  repeat' split
  all_goals omega
theorem la_mono (m : Mb) {y z : Int} (h : y ≤ z) : lbts_Outputs.la m y ≤ lbts_Outputs.la m z := by
  rw [la_eq, la_eq]
  have := ck_mono h
  exact ck_mono (by omega)
theorem la_range (m : Mb) (y : Int) : 0 ≤ lbts_Outputs.la m y ∧ lbts_Outputs.la m y ≤ 1125899906842624 := by
  rw [la_eq]
  exact lbts_Outputs.ck_range _
theorem cl_eq (t : Int) : lbts_Outputs.cl t = lbts_Outputs.ck t := by
  show lbts_Outputs.ck (lbts_Outputs.ck t + lbts_Outputs.ck 0) = _
  rw [show lbts_Outputs.ck 0 = 0 from rfl]
  unfold lbts_Outputs.ck
  repeat' split
  all_goals omega
theorem sysOf_ok (l : List Mb) : (sysOf l).Ok :=
  ⟨fun i y => la_gt _ y, fun i y z h => la_mono _ h, fun i y => (la_range _ y).2, fun i y => (la_range _ y).1, fun i => (la_range _ _).2, fun i => (la_range _ _).1⟩
/-! lbts.Outputs -/
theorem best_tells (os : List Bool) (xs : List Int) (k : Nat) : (lbts_Outputs.best os xs k < 0 → ∀ j, j < k → os.getD j false = false) ∧
    (0 ≤ lbts_Outputs.best os xs k → os.getD (lbts_Outputs.best os xs k).toNat false = true ∧ ∀ j, j < k → os.getD j false = true → xs.getD (lbts_Outputs.best os xs k).toNat 0 ≤ xs.getD j 0) := by
  induction k with
  | zero => exact ⟨fun _ j h => absurd h (by omega), fun h => absurd h (by show ¬ (0 : Int) ≤ -1; omega)⟩
  | succ k ih =>
    rw [lbts_Outputs.best]
    cases ho : os.getD k false with
    | false =>
      simp only [Bool.false_and, Bool.false_eq_true, if_false]
      refine ⟨fun h j hj => ?_, fun h => ⟨(ih.2 h).1, fun j hj hoj => ?_⟩⟩
      · by_cases hjk : j = k
        · rw [hjk]; exact ho
        · exact ih.1 h j (by omega)
      · by_cases hjk : j = k
        · rw [hjk, ho] at hoj; cases hoj
        · exact (ih.2 h).2 j (by omega) hoj
    | true =>
      simp only [Bool.true_and]
      by_cases hc : (decide (lbts_Outputs.best os xs k < 0) || decide (xs.getD k 0 < xs.getD (lbts_Outputs.best os xs k).toNat 0)) = true
      · rw [if_pos hc]
        refine ⟨fun h => by omega, fun _ => ⟨by rw [Int.toNat_natCast]; exact ho, fun j hj hoj => ?_⟩⟩
        rw [Int.toNat_natCast]
        by_cases hjk : j = k
        · rw [hjk]; exact Int.le_refl _
        · by_cases hb : lbts_Outputs.best os xs k < 0
          · rw [ih.1 hb j (by omega)] at hoj; cases hoj
          · have h1 := (ih.2 (by omega)).2 j (by omega) hoj
            simp only [Bool.or_eq_true, decide_eq_true_eq, hb, false_or] at hc
            omega
      · rw [if_neg hc]
        simp only [Bool.or_eq_true, decide_eq_true_eq, not_or] at hc
        refine ⟨fun h => absurd h hc.1, fun h => ⟨(ih.2 h).1, fun j hj hoj => ?_⟩⟩
        by_cases hjk : j = k
        · rw [hjk]; omega
        · exact (ih.2 h).2 j (by omega) hoj
theorem getD_set_int (xs : List Int) (i j : Nat) (v : Int) (hi : i < xs.length) : (xs.set i v).getD j 0 = if i = j then v else xs.getD j 0 := by
  simp only [List.getD_eq_getElem?_getD, List.getElem?_set]
  split
  · simp [hi]
  · rfl
theorem getD_set_off (os : List Bool) (k j : Nat) : (os.set k false).getD j false = (os.getD j false && j != k) := by
  simp only [List.getD_eq_getElem?_getD, List.getElem?_set]
  by_cases h : k = j
  · subst h
    rw [if_pos rfl]
    split <;> simp
  · rw [if_neg h]
    have : (j != k) = true := by simp [Ne.symm h]
    rw [this, Bool.and_true]
theorem relax_tells (l : List Mb) (os hs : List Bool) (i : Nat) (xs : List Int) (hi : os.getD i false = false) (k : Nat) (hk : k ≤ xs.length) :
    (lbts_Outputs.relax lbts_Outputs.la lbts_Outputs.cl l os hs i xs k).length = xs.length ∧
    ∀ j, (lbts_Outputs.relax lbts_Outputs.la lbts_Outputs.cl l os hs i xs k).getD j 0 = if j < k ∧ (os.getD j false && hs.getD j false) = true then mn (xs.getD j 0) (lbts_Outputs.la (l.getD j zM) (mx (lbts_Outputs.cl (l.getD j zM).f2) (xs.getD i 0))) else xs.getD j 0 := by
  induction k with
  | zero => exact ⟨rfl, fun j => by rw [if_neg (by omega)]; rfl⟩
  | succ k ih =>
    obtain ⟨h1, h2⟩ := ih (by omega)
    rw [lbts_Outputs.relax]
    by_cases hc : (os.getD k false && hs.getD k false) = true
    · simp only [hc, if_true]
      have e1 : (lbts_Outputs.relax lbts_Outputs.la lbts_Outputs.cl l os hs i xs k).getD i 0 = xs.getD i 0 := by rw [h2 i, if_neg (by rw [hi]; simp)]
      have e2 : (lbts_Outputs.relax lbts_Outputs.la lbts_Outputs.cl l os hs i xs k).getD k 0 = xs.getD k 0 := by rw [h2 k, if_neg (by omega)]
      rw [e1, e2]
      refine ⟨by rw [List.length_set]; exact h1, fun j => ?_⟩
      rw [getD_set_int _ _ _ _ (by omega)]
      by_cases hjk : k = j
      · subst hjk
        rw [if_pos rfl, if_pos ⟨by omega, hc⟩]
      · rw [if_neg hjk, h2 j]
        by_cases hj : j < k
        · simp only [hj, true_and, show j < k + 1 by omega]
        · rw [if_neg (fun h => hj h.1), if_neg (fun h => by omega)]
    · simp only [hc, Bool.false_eq_true, if_false]
      refine ⟨h1, fun j => ?_⟩
      rw [h2 j]
      by_cases hj : j < k
      · simp only [hj, true_and, show j < k + 1 by omega]
      · rw [if_neg (fun h => hj h.1)]
        by_cases hjk : j = k
        · subst hjk
          rw [if_neg (fun h => hc h.2)]
        · rw [if_neg (fun h => by omega)]
theorem run_tells (l : List Mb) : ∀ (K : Nat) (os : List Bool) (xs : List Int), os.length = l.length → xs.length = l.length → Stand (sysOf l) l.length (fun j => os.getD j false) (fun j => xs.getD j 0) → cnt (fun j => os.getD j false) l.length < K →
    ∃ r, lbts_Outputs.run lbts_Outputs.la lbts_Outputs.cl l (l.map (lbts_Outputs.h0 lbts_Outputs.ow)) K os xs = some r ∧ r.length = l.length ∧ Sol (sysOf l) l.length (fun j => r.getD j 0) := by
  intro K
  induction K with
  | zero => intro os xs _ _ _ h; omega
  | succ K ih =>
    intro os xs ho hx hI hK
    obtain ⟨b1, b2⟩ := best_tells os xs l.length
    have hr := lbts_Outputs.best_range os xs l.length
    rw [lbts_Outputs.run]
    by_cases hb : lbts_Outputs.best os xs l.length < 0
    · rw [if_pos hb]
      exact ⟨xs, rfl, hx, hI.sol (fun i hi => b1 hb i hi)⟩
    · rw [if_neg hb]
      obtain ⟨c1, c2⟩ := b2 (by omega)
      generalize hbk : (lbts_Outputs.best os xs l.length).toNat = k at *
      have hk : k < l.length := by omega
      have hoff : ∀ j, (os.set k false).getD j false = (os.getD j false && j != k) := fun j => getD_set_off os k j
      obtain ⟨r1, r2⟩ := relax_tells l (os.set k false) (l.map (lbts_Outputs.h0 lbts_Outputs.ow)) k xs (by rw [hoff]; simp) l.length (by omega)
      refine ih (os.set k false) _ (by rw [List.length_set]; exact ho) (by rw [r1]; exact hx) ?_ ?_
      · refine hI.step (sysOf_ok l) hk c1 c2 hoff (fun j hj => ?_)
        rw [r2 j]
        have e : (l.map (lbts_Outputs.h0 lbts_Outputs.ow)).getD j false = (sysOf l).hg j := by
          show _ = lbts_Outputs.h0 lbts_Outputs.ow (l.getD j zM)
          rw [List.getD_eq_getElem?_getD, List.getElem?_map, List.getD_eq_getElem?_getD, List.getElem?_eq_getElem hj]
          rfl
        rw [e]
        simp only [hj, true_and]
        rfl
      · have := (cnt_off (os := fun j => os.getD j false) (os' := fun j => (os.set k false).getD j false) hoff c1 l.length).1 hk
        omega
theorem outputs_tells (l : List Mb) (hl : l.length ≤ 1000000) : ∃ r, lbts_Outputs.f l = some r ∧ r.length = l.length ∧ Sol (sysOf l) l.length (fun j => r.getD j 0) := by
  unfold lbts_Outputs.f
  rw [if_pos hl]
  have e1 : ∀ j, j < l.length → (l.map (·.f0)).getD j false = (l.getD j zM).f0 := fun j hj => by
    rw [List.getD_eq_getElem?_getD, List.getElem?_map, List.getD_eq_getElem?_getD, List.getElem?_eq_getElem hj]
    rfl
  have e2 : ∀ j, j < l.length → (l.map (lbts_Outputs.x0 lbts_Outputs.ow lbts_Outputs.la)).getD j 0 = lbts_Outputs.x0 lbts_Outputs.ow lbts_Outputs.la (l.getD j zM) := fun j hj => by
    rw [List.getD_eq_getElem?_getD, List.getElem?_map, List.getD_eq_getElem?_getD, List.getElem?_eq_getElem hj]
    rfl
  have e3 : ∀ j, j < l.length → ((sysOf l).reg j && !(l.map (·.f0)).getD j false) = false := fun j hj => by
    rw [e1 j hj]
    show ((l.getD j zM).f0 && !(l.getD j zM).f0) = false
    cases (l.getD j zM).f0 <;> rfl
  refine run_tells l (l.length + 1) _ _ (by simp) (by simp) ⟨fun i hi h => ?_, fun i hi h => ?_, fun i hi h1 h2 => ?_, fun i hi h1 h2 => ?_, fun i j hi hj h1 h2 h3 => ?_⟩ (Nat.lt_succ_of_le (cnt_le _ _))
  · rw [e1 i hi] at h
    exact h
  · rw [e2 i hi]
    have h' : (l.getD i zM).f0 = false := h
    unfold lbts_Outputs.x0
    rw [h']
    simp
  · rw [e2 i hi]
    have h' : (l.getD i zM).f0 = true := h1
    unfold lbts_Outputs.x0
    rw [h']
    rfl
  · have h' : (l.getD i zM).f0 = true := h1
    have hg : lbts_Outputs.h0 lbts_Outputs.ow (l.getD i zM) = true := h2
    have ex : lbts_Outputs.x0 lbts_Outputs.ow lbts_Outputs.la (l.getD i zM) = lbts_Outputs.la (l.getD i zM) (lbts_Outputs.ow (l.getD i zM)).1 := by
      unfold lbts_Outputs.x0
      rw [h']
      rfl
    unfold lbts_Outputs.h0 at hg
    rw [h'] at hg
    simp only [if_true] at hg
    have hC : oth (fun j => (sysOf l).reg j && !(l.map (·.f0)).getD j false) (fun j => (l.map (lbts_Outputs.x0 lbts_Outputs.ow lbts_Outputs.la)).getD j 0) (i : Int) l.length = 1125899906842624 := by
      rcases oth_cases (fun j => (sysOf l).reg j && !(l.map (·.f0)).getD j false) (fun j => (l.map (lbts_Outputs.x0 lbts_Outputs.ow lbts_Outputs.la)).getD j 0) (i : Int) l.length with h | ⟨j, j1, _, j3, _⟩
      · exact h
      · rw [e3 j j1] at j3
        cases j3
    rw [e2 i hi, ex, hC]
    show lbts_Outputs.la (l.getD i zM) _ = lbts_Outputs.la (l.getD i zM) (mx (lbts_Outputs.cl (l.getD i zM).f2) (mn (mn (lbts_Outputs.cl (l.getD i zM).f5) (lbts_Outputs.cl (l.getD i zM).f6)) 1125899906842624))
    congr 1
    have c5 := lbts_Outputs.ck_range (l.getD i zM).f5
    rw [← cl_eq] at c5
    unfold lbts_Outputs.ow at hg ⊢
    split at hg
    · cases hg
    · rename_i n1
      rw [if_neg n1]
      split at hg
      · rename_i n2
        rw [if_pos n2]
        split at hg
        · rename_i n3
          rw [if_pos n3]
          simp only
          congr 1
          unfold mn
          omega
        · cases hg
      · cases hg
  · have h2' := e3 i hi
    have h1' : (sysOf l).reg i = true := h1
    rw [h1', h2] at h2'
    cases h2'
/-! lbts.Lbts -/
theorem lbts_loop (l : List Mb) (i : Int) (r : List Int) (hl : l.length ≤ 1000000) (hr : r.length = l.length) (d : Nat) : ∀ (k p : Nat), p ≤ l.length → l.length - p = d → d < k →
    lbts_Lbts.l0 k l i (oth (sysOf l).reg (fun j => r.getD j 0) i p) r (r.length : Int) (p : Int) = some (oth (sysOf l).reg (fun j => r.getD j 0) i l.length) := by
  induction d with
  | zero =>
    intro k p h0 hd hk
    obtain ⟨k, rfl⟩ : ∃ m, k = m + 1 := ⟨k - 1, by omega⟩
    simp only [lbts_Lbts.l0]
    rw [if_neg (by omega), show p = l.length by omega]
  | succ d ih =>
    intro k p h0 hd hk
    obtain ⟨k, rfl⟩ : ∃ m, k = m + 1 := ⟨k - 1, by omega⟩
    have hI := ih k (p + 1) (by omega) (by omega) (by omega)
    rw [oth] at hI
    rw [show ((p + 1 : Nat) : Int) = (p : Int) + 1 by omega] at hI
    simp only [lbts_Lbts.l0]
    rw [if_pos (by omega), if_pos (by omega), if_pos (by omega), wrap64_id (by omega) (by omega)]
    have eM : (rd_T108 l (p : Int)).f0 = (sysOf l).reg p := rfl
    rw [show rd r (p : Int) = r.getD p 0 from rfl]
    by_cases hi : (p : Int) = i
    · rw [if_pos hi]
      rw [if_neg (by simp [hi])] at hI
      exact hI
    · rw [if_neg hi, if_pos (by omega), eM]
      cases hg : (sysOf l).reg p with
      | true =>
        rw [if_pos rfl]
        rw [if_pos ⟨hi, hg⟩] at hI
        exact hI
      | false =>
        rw [if_neg (by simp)]
        rw [if_neg (by simp [hg])] at hI
        exact hI
theorem lbts_tells (l : List Mb) (hl : l.length ≤ 1000000) {r : List Int} (hf : lbts_Outputs.f l = some r) (hr : r.length = l.length) (k : Nat) (hk : l.length < k) (i : Int) :
    lbts_Lbts.f k l i = some (oth (sysOf l).reg (fun j => r.getD j 0) i l.length) := by
  unfold lbts_Lbts.f
  rw [hf]
  simp only [Option.bind_some]
  exact lbts_loop l i r hl hr l.length k 0 (by omega) (by omega) hk
/-! ### two federates -/
theorem memL_at (m : Nat → TM) : ∀ k, k < 8 → (memL m 8).getD k zM = memOf (m k)
  | 0, _ => rfl
  | 1, _ => rfl
  | 2, _ => rfl
  | 3, _ => rfl
  | 4, _ => rfl
  | 5, _ => rfl
  | 6, _ => rfl
  | 7, _ => rfl
/-- Where a federate that waits for no message stands, or asks to stand. -/
def basis (x : TM) : Int := if x.kind = 1 then x.ask else x.time
theorem out_plain (x : TM) (hk : x.kind = 0 ∨ x.kind = 1) (h1 : 1 ≤ x.look) (h2 : x.look ≤ 1048576) (h3 : 0 ≤ basis x) (h4 : basis x ≤ 1000000) : lbts_Outputs.la (memOf x) (lbts_Outputs.ow (memOf x)).1 = basis x + x.look := by
  have e : (lbts_Outputs.ow (memOf x)).1 = basis x := by
    unfold lbts_Outputs.ow basis at *
    show (if x.kind = 1 then _ else _ : Int × Bool).1 = _
    by_cases h : x.kind = 1
    · rw [if_pos h, if_pos h]
      rw [if_pos h] at h3 h4
      show lbts_Outputs.cl x.ask = x.ask
      rw [cl_eq]
      unfold lbts_Outputs.ck
      rw [if_neg (by omega), if_neg (by omega)]
    · have h0 : x.kind = 0 := hk.resolve_right h
      rw [if_neg h] at h3 h4
      rw [if_neg h, if_neg h, if_neg (show ¬ ((memOf x).f4 = 2 ∨ (memOf x).f4 = 3) from fun e => by have e' : x.kind = 2 ∨ x.kind = 3 := e; omega)]
      show lbts_Outputs.cl x.time = x.time
      rw [cl_eq]
      unfold lbts_Outputs.ck
      rw [if_neg (by omega), if_neg (by omega)]
  have e2 : look (memOf x) = x.look := by
    show mx 1 (mn x.look 1048576) = x.look
    unfold mx mn
    omega
  rw [la_eq, e, e2]
  unfold lbts_Outputs.ck
  rw [if_neg (show ¬ basis x < 0 by omega), if_neg (show ¬ basis x > 1099511627776 by omega), if_neg (by omega), if_neg (by omega)]
theorem not_hangs (x : TM) (hk : x.kind = 0 ∨ x.kind = 1) : lbts_Outputs.h0 lbts_Outputs.ow (memOf x) = false := by
  unfold lbts_Outputs.h0 lbts_Outputs.ow
  show (if _ = true then (if x.kind = 1 then _ else _ : Int × Bool).2 else false) = false
  split
  · by_cases h : x.kind = 1
    · rw [if_pos h]
    · rw [if_neg h, if_neg (show ¬ ((memOf x).f4 = 2 ∨ (memOf x).f4 = 3) from fun e => by have e' : x.kind = 2 ∨ x.kind = 3 := e; have := hk.resolve_right h; omega)]
  · rfl
theorem oth_pair (R : Nat → Bool) (X : Nat → Int) (y : Int) (r2 : R 2 = false) (r3 : R 3 = false) (r4 : R 4 = false) (r5 : R 5 = false) (r6 : R 6 = false) (r7 : R 7 = false) (g : Nat) (hg : g < 2) (hr : R g = true) (hx : X g = y) (hy : y ≤ 1125899906842624) :
    oth R X ((1 - g : Nat) : Int) 8 = y := by
  have hm : mn 1125899906842624 y = y := by unfold mn; omega
  match g, hg, hr, hx with
  | 0, _, hr, hx =>
    rw [oth, if_neg (by rw [r7]; simp), oth, if_neg (by rw [r6]; simp), oth, if_neg (by rw [r5]; simp), oth, if_neg (by rw [r4]; simp), oth, if_neg (by rw [r3]; simp), oth, if_neg (by rw [r2]; simp), oth, if_neg (by simp), oth, if_pos ⟨by decide, hr⟩, oth, hx, hm]
  | 1, _, hr, hx =>
    rw [oth, if_neg (by rw [r7]; simp), oth, if_neg (by rw [r6]; simp), oth, if_neg (by rw [r5]; simp), oth, if_neg (by rw [r4]; simp), oth, if_neg (by rw [r3]; simp), oth, if_neg (by rw [r2]; simp), oth, if_pos ⟨by decide, hr⟩, oth, if_neg (by simp), oth, hx, hm]
/-- The others regulate nobody. -/
def Still (m : Nat → TM) : Prop := ∀ k, 2 ≤ k → k < 8 → (m k).look = 0
theorem bound_val (m : Nat → TM) (hq : Still m) (g : Nat) (hg : g < 2) (hk : (m g).kind = 0 ∨ (m g).kind = 1) (h1 : 1 ≤ (m g).look) (h2 : (m g).look ≤ 1048576) (h3 : 0 ≤ basis (m g)) (h4 : basis (m g) ≤ 1000000) :
    lbts_Lbts.f 9 (memL m 8) ((1 - g : Nat) : Int) = some (basis (m g) + (m g).look) := by
  have hl := memL_len m 8
  obtain ⟨r, hf, hr, hS⟩ := outputs_tells (memL m 8) (by rw [hl]; omega)
  rw [lbts_tells _ (by rw [hl]; omega) hf hr 9 (by rw [hl]; omega)]
  congr 1
  have hx := hS g (by rw [hl]; omega)
  have er : ∀ k, k < 8 → (sysOf (memL m 8)).reg k = decide (0 < (m k).look) := fun k hk => by
    show ((memL m 8).getD k zM).f0 = _
    rw [memL_at m k hk]
    rfl
  have ev : (sysOf (memL m 8)).v g = basis (m g) + (m g).look := by
    show lbts_Outputs.la ((memL m 8).getD g zM) (lbts_Outputs.ow ((memL m 8).getD g zM)).1 = _
    rw [memL_at m g (by omega), out_plain _ hk h1 h2 h3 h4]
  have eh : (sysOf (memL m 8)).hg g = false := by
    show lbts_Outputs.h0 lbts_Outputs.ow ((memL m 8).getD g zM) = false
    rw [memL_at m g (by omega), not_hangs _ hk]
  have hrg := er g (by omega)
  rw [decide_eq_true (show 0 < (m g).look by omega)] at hrg
  unfold Web.F at hx
  rw [hrg, eh, ev] at hx
  simp only [if_true, Bool.false_eq_true, if_false] at hx
  rw [hl]
  have e2 : ∀ k, 2 ≤ k → k < 8 → (sysOf (memL m 8)).reg k = false := fun k a b => by rw [er k b]; exact decide_eq_false (by rw [hq k a b]; omega)
  exact oth_pair _ _ _ (e2 2 (by omega) (by omega)) (e2 3 (by omega) (by omega)) (e2 4 (by omega) (by omega)) (e2 5 (by omega) (by omega)) (e2 6 (by omega) (by omega)) (e2 7 (by omega) (by omega)) g hg hrg hx (by omega)
theorem oth_none (R : Nat → Bool) (X : Nat → Int) (r2 : R 2 = false) (r3 : R 3 = false) (r4 : R 4 = false) (r5 : R 5 = false) (r6 : R 6 = false) (r7 : R 7 = false) (g : Nat) (hg : g < 2) (hr : R g = false) :
    oth R X ((1 - g : Nat) : Int) 8 = 1125899906842624 := by
  match g, hg, hr with
  | 0, _, hr =>
    rw [oth, if_neg (by rw [r7]; simp), oth, if_neg (by rw [r6]; simp), oth, if_neg (by rw [r5]; simp), oth, if_neg (by rw [r4]; simp), oth, if_neg (by rw [r3]; simp), oth, if_neg (by rw [r2]; simp), oth, if_neg (by simp), oth, if_neg (by rw [hr]; simp), oth]
  | 1, _, hr =>
    rw [oth, if_neg (by rw [r7]; simp), oth, if_neg (by rw [r6]; simp), oth, if_neg (by rw [r5]; simp), oth, if_neg (by rw [r4]; simp), oth, if_neg (by rw [r3]; simp), oth, if_neg (by rw [r2]; simp), oth, if_neg (by rw [hr]; simp), oth, if_neg (by simp), oth]
/-- The other one regulates nobody. -/
theorem bound_inf (m : Nat → TM) (hq : Still m) (g : Nat) (hg : g < 2) (h1 : (m g).look = 0) : lbts_Lbts.f 9 (memL m 8) ((1 - g : Nat) : Int) = some 1125899906842624 := by
  have hl := memL_len m 8
  obtain ⟨r, hf, hr, hS⟩ := outputs_tells (memL m 8) (by rw [hl]; omega)
  rw [lbts_tells _ (by rw [hl]; omega) hf hr 9 (by rw [hl]; omega)]
  congr 1
  have er : ∀ k, k < 8 → (sysOf (memL m 8)).reg k = decide (0 < (m k).look) := fun k hk => by
    show ((memL m 8).getD k zM).f0 = _
    rw [memL_at m k hk]
    rfl
  have hrg := er g (by omega)
  rw [decide_eq_false (show ¬ 0 < (m g).look by omega)] at hrg
  rw [hl]
  have e2 : ∀ k, 2 ≤ k → k < 8 → (sysOf (memL m 8)).reg k = false := fun k a b => by rw [er k b]; exact decide_eq_false (by rw [hq k a b]; omega)
  exact oth_none _ _ (e2 2 (by omega) (by omega)) (e2 3 (by omega) (by omega)) (e2 4 (by omega) (by omega)) (e2 5 (by omega) (by omega)) (e2 6 (by omega) (by omega)) (e2 7 (by omega) (by omega)) g hg hrg
end Go.Proofs.YtaaaocckfnlgdaaGreatDoorT
