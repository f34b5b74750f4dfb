/- 'pacelinelaw18.LbtsIdle': whatever the times, the lookaheads, who is off, and whatever place: the law answers true. Conditions: none beyond the form's own reach. -/
import Derived.Test.YteomcpdfbaglaaaPLbtsIdlex
import Derived.Test.YteomcpdfbaglaaaLbtsLib
set_option linter.unusedVariables false
set_option linter.unusedSimpArgs false
namespace Go.Proofs.Yteomcpdfbaglaaa.Pure
open Go.RowKit Go.Proofs.Yteomcpdfbaglaaa.PLbtsIdle Go.Proofs.YteomcpdfbaglaaaR Go.Proofs.YteomcpdfbaglaaaW.PrintWords Go.Proofs.YteomcpdfbaglaaaW.PrintLast Go.Proofs.YteomcpdfbaglaaaL

/-! ### lbts: what the printed functions come to -/
abbrev Mb := S30
abbrev zM : Mb := z30
abbrev look (m : Mb) : Int := mx 1 (mn m.f3 1048576)
def sysOf (l : List Mb) : Web where
  reg i := (l.getD i zM).f0
  hg i := lbts_Outputs.h0 lbts_Outputs.ow (l.getD i zM)
  v i := lbts_Outputs.la (l.getD i zM) (lbts_Outputs.ow (l.getD i zM)).1
  t i := lbts_Outputs.cl (l.getD i zM).f2
  c i := mn (lbts_Outputs.cl (l.getD i zM).f5) (lbts_Outputs.cl (l.getD i zM).f6)
  la i y := lbts_Outputs.la (l.getD i zM) y
theorem ck_mono {a b : Int} (h : a ≤ b) : lbts_Outputs.ck a ≤ lbts_Outputs.ck b := by
  unfold lbts_Outputs.ck
  repeat' split
  all_goals omega
theorem look_range (m : Mb) : 1 ≤ look m ∧ look m ≤ 1048576 := by
  unfold look mx mn
  repeat' split
  all_goals omega
theorem ck_look (m : Mb) : lbts_Outputs.ck (look m) = look m := by
  have := look_range m
  unfold lbts_Outputs.ck
  rw [if_neg (by omega), if_neg (by omega)]
theorem la_eq (m : Mb) (y : Int) : lbts_Outputs.la m y = lbts_Outputs.ck (lbts_Outputs.ck y + look m) := by
  show lbts_Outputs.ck (lbts_Outputs.ck y + lbts_Outputs.ck (look m)) = _
  rw [ck_look]
theorem la_gt (m : Mb) (y : Int) : lbts_Outputs.la m y = 1125899906842624 ∨ y < lbts_Outputs.la m y := by
  have := look_range m
  rw [la_eq]
  generalize look m = L at *
  unfold lbts_Outputs.ck
  repeat' split
  all_goals omega
theorem la_mono (m : Mb) {y z : Int} (h : y ≤ z) : lbts_Outputs.la m y ≤ lbts_Outputs.la m z := by
  rw [la_eq, la_eq]
  have := ck_mono h
  exact ck_mono (by omega)
theorem la_range (m : Mb) (y : Int) : 0 ≤ lbts_Outputs.la m y ∧ lbts_Outputs.la m y ≤ 1125899906842624 := by
  rw [la_eq]
  exact lbts_Outputs.ck_range _
theorem cl_eq (t : Int) : lbts_Outputs.cl t = lbts_Outputs.ck t := by
  show lbts_Outputs.ck (lbts_Outputs.ck t + lbts_Outputs.ck 0) = _
  rw [show lbts_Outputs.ck 0 = 0 from rfl]
  unfold lbts_Outputs.ck
  repeat' split
  all_goals omega
theorem sysOf_ok (l : List Mb) : (sysOf l).Ok :=
  ⟨fun i y => la_gt _ y, fun i y z h => la_mono _ h, fun i y => (la_range _ y).2, fun i y => (la_range _ y).1, fun i => (la_range _ _).2, fun i => (la_range _ _).1⟩
/-! lbts.Outputs -/
theorem best_tells (os : List Bool) (xs : List Int) (k : Nat) : (lbts_Outputs.best os xs k < 0 → ∀ j, j < k → os.getD j false = false) ∧
    (0 ≤ lbts_Outputs.best os xs k → os.getD (lbts_Outputs.best os xs k).toNat false = true ∧ ∀ j, j < k → os.getD j false = true → xs.getD (lbts_Outputs.best os xs k).toNat 0 ≤ xs.getD j 0) := by
  induction k with
  | zero => exact ⟨fun _ j h => absurd h (by omega), fun h => absurd h (by show ¬ (0 : Int) ≤ -1; omega)⟩
  | succ k ih =>
    rw [lbts_Outputs.best]
    cases ho : os.getD k false with
    | false =>
      simp only [Bool.false_and, Bool.false_eq_true, if_false]
      refine ⟨fun h j hj => ?_, fun h => ⟨(ih.2 h).1, fun j hj hoj => ?_⟩⟩
      · by_cases hjk : j = k
        · rw [hjk]; exact ho
        · exact ih.1 h j (by omega)
      · by_cases hjk : j = k
        · rw [hjk, ho] at hoj; cases hoj
        · exact (ih.2 h).2 j (by omega) hoj
    | true =>
      simp only [Bool.true_and]
      by_cases hc : (decide (lbts_Outputs.best os xs k < 0) || decide (xs.getD k 0 < xs.getD (lbts_Outputs.best os xs k).toNat 0)) = true
      · rw [if_pos hc]
        refine ⟨fun h => by omega, fun _ => ⟨by rw [Int.toNat_natCast]; exact ho, fun j hj hoj => ?_⟩⟩
        rw [Int.toNat_natCast]
        by_cases hjk : j = k
        · rw [hjk]; exact Int.le_refl _
        · by_cases hb : lbts_Outputs.best os xs k < 0
          · rw [ih.1 hb j (by omega)] at hoj; cases hoj
          · have h1 := (ih.2 (by omega)).2 j (by omega) hoj
            simp only [Bool.or_eq_true, decide_eq_true_eq, hb, false_or] at hc
            omega
      · rw [if_neg hc]
        simp only [Bool.or_eq_true, decide_eq_true_eq, not_or] at hc
        refine ⟨fun h => absurd h hc.1, fun h => ⟨(ih.2 h).1, fun j hj hoj => ?_⟩⟩
        by_cases hjk : j = k
        · rw [hjk]; omega
        · exact (ih.2 h).2 j (by omega) hoj
theorem getD_set_int (xs : List Int) (i j : Nat) (v : Int) (hi : i < xs.length) : (xs.set i v).getD j 0 = if i = j then v else xs.getD j 0 := by
  simp only [List.getD_eq_getElem?_getD, List.getElem?_set]
  split
  · simp [hi]
  · rfl
theorem getD_set_off (os : List Bool) (k j : Nat) : (os.set k false).getD j false = (os.getD j false && j != k) := by
  simp only [List.getD_eq_getElem?_getD, List.getElem?_set]
  by_cases h : k = j
  · subst h
    rw [if_pos rfl]
    split <;> simp
  · rw [if_neg h]
    have : (j != k) = true := by simp [Ne.symm h]
    rw [this, Bool.and_true]
theorem relax_tells (l : List Mb) (os hs : List Bool) (i : Nat) (xs : List Int) (hi : os.getD i false = false) (k : Nat) (hk : k ≤ xs.length) :
    (lbts_Outputs.relax lbts_Outputs.la lbts_Outputs.cl l os hs i xs k).length = xs.length ∧
    ∀ j, (lbts_Outputs.relax lbts_Outputs.la lbts_Outputs.cl l os hs i xs k).getD j 0 = if j < k ∧ (os.getD j false && hs.getD j false) = true then mn (xs.getD j 0) (lbts_Outputs.la (l.getD j zM) (mx (lbts_Outputs.cl (l.getD j zM).f2) (xs.getD i 0))) else xs.getD j 0 := by
  induction k with
  | zero => exact ⟨rfl, fun j => by rw [if_neg (by omega)]; rfl⟩
  | succ k ih =>
    obtain ⟨h1, h2⟩ := ih (by omega)
    rw [lbts_Outputs.relax]
    by_cases hc : (os.getD k false && hs.getD k false) = true
    · simp only [hc, if_true]
      have e1 : (lbts_Outputs.relax lbts_Outputs.la lbts_Outputs.cl l os hs i xs k).getD i 0 = xs.getD i 0 := by rw [h2 i, if_neg (by rw [hi]; simp)]
      have e2 : (lbts_Outputs.relax lbts_Outputs.la lbts_Outputs.cl l os hs i xs k).getD k 0 = xs.getD k 0 := by rw [h2 k, if_neg (by omega)]
      rw [e1, e2]
      refine ⟨by rw [List.length_set]; exact h1, fun j => ?_⟩
      rw [getD_set_int _ _ _ _ (by omega)]
      by_cases hjk : k = j
      · subst hjk
        rw [if_pos rfl, if_pos ⟨by omega, hc⟩]
      · rw [if_neg hjk, h2 j]
        by_cases hj : j < k
        · simp only [hj, true_and, show j < k + 1 by omega]
        · rw [if_neg (fun h => hj h.1), if_neg (fun h => by omega)]
    · simp only [hc, Bool.false_eq_true, if_false]
      refine ⟨h1, fun j => ?_⟩
      rw [h2 j]
      by_cases hj : j < k
      · simp only [hj, true_and, show j < k + 1 by omega]
      · rw [if_neg (fun h => hj h.1)]
        by_cases hjk : j = k
        · subst hjk
          rw [if_neg (fun h => hc h.2)]
        · rw [if_neg (fun h => by omega)]
theorem run_tells (l : List Mb) : ∀ (K : Nat) (os : List Bool) (xs : List Int), os.length = l.length → xs.length = l.length → Stand (sysOf l) l.length (fun j => os.getD j false) (fun j => xs.getD j 0) → cnt (fun j => os.getD j false) l.length < K →
    ∃ r, lbts_Outputs.run lbts_Outputs.la lbts_Outputs.cl l (l.map (lbts_Outputs.h0 lbts_Outputs.ow)) K os xs = some r ∧ r.length = l.length ∧ Sol (sysOf l) l.length (fun j => r.getD j 0) := by
  intro K
  induction K with
  | zero => intro os xs _ _ _ h; omega
  | succ K ih =>
    intro os xs ho hx hI hK
    obtain ⟨b1, b2⟩ := best_tells os xs l.length
    have hr := lbts_Outputs.best_range os xs l.length
    rw [lbts_Outputs.run]
    by_cases hb : lbts_Outputs.best os xs l.length < 0
    · rw [if_pos hb]
      exact ⟨xs, rfl, hx, hI.sol (fun i hi => b1 hb i hi)⟩
    · rw [if_neg hb]
      obtain ⟨c1, c2⟩ := b2 (by omega)
      generalize hbk : (lbts_Outputs.best os xs l.length).toNat = k at *
      have hk : k < l.length := by omega
      have hoff : ∀ j, (os.set k false).getD j false = (os.getD j false && j != k) := fun j => getD_set_off os k j
      obtain ⟨r1, r2⟩ := relax_tells l (os.set k false) (l.map (lbts_Outputs.h0 lbts_Outputs.ow)) k xs (by rw [hoff]; simp) l.length (by omega)
      refine ih (os.set k false) _ (by rw [List.length_set]; exact ho) (by rw [r1]; exact hx) ?_ ?_
      · refine hI.step (sysOf_ok l) hk c1 c2 hoff (fun j hj => ?_)
        rw [r2 j]
        have e : (l.map (lbts_Outputs.h0 lbts_Outputs.ow)).getD j false = (sysOf l).hg j := by
          show _ = lbts_Outputs.h0 lbts_Outputs.ow (l.getD j zM)
          rw [List.getD_eq_getElem?_getD, List.getElem?_map, List.getD_eq_getElem?_getD, List.getElem?_eq_getElem hj]
          rfl
        rw [e]
        simp only [hj, true_and]
        rfl
      · have := (cnt_off (os := fun j => os.getD j false) (os' := fun j => (os.set k false).getD j false) hoff c1 l.length).1 hk
        omega
theorem outputs_tells (l : List Mb) (hl : l.length ≤ 1000000) : ∃ r, lbts_Outputs.f l = some r ∧ r.length = l.length ∧ Sol (sysOf l) l.length (fun j => r.getD j 0) := by
  unfold lbts_Outputs.f
  rw [if_pos hl]
  have e1 : ∀ j, j < l.length → (l.map (·.f0)).getD j false = (l.getD j zM).f0 := fun j hj => by
    rw [List.getD_eq_getElem?_getD, List.getElem?_map, List.getD_eq_getElem?_getD, List.getElem?_eq_getElem hj]
    rfl
  have e2 : ∀ j, j < l.length → (l.map (lbts_Outputs.x0 lbts_Outputs.ow lbts_Outputs.la)).getD j 0 = lbts_Outputs.x0 lbts_Outputs.ow lbts_Outputs.la (l.getD j zM) := fun j hj => by
    rw [List.getD_eq_getElem?_getD, List.getElem?_map, List.getD_eq_getElem?_getD, List.getElem?_eq_getElem hj]
    rfl
  have e3 : ∀ j, j < l.length → ((sysOf l).reg j && !(l.map (·.f0)).getD j false) = false := fun j hj => by
    rw [e1 j hj]
    show ((l.getD j zM).f0 && !(l.getD j zM).f0) = false
    cases (l.getD j zM).f0 <;> rfl
  refine run_tells l (l.length + 1) _ _ (by simp) (by simp) ⟨fun i hi h => ?_, fun i hi h => ?_, fun i hi h1 h2 => ?_, fun i hi h1 h2 => ?_, fun i j hi hj h1 h2 h3 => ?_⟩ (Nat.lt_succ_of_le (cnt_le _ _))
  · rw [e1 i hi] at h
    exact h
  · rw [e2 i hi]
    have h' : (l.getD i zM).f0 = false := h
    unfold lbts_Outputs.x0
    rw [h']
    simp
  · rw [e2 i hi]
    have h' : (l.getD i zM).f0 = true := h1
    unfold lbts_Outputs.x0
    rw [h']
    rfl
  · have h' : (l.getD i zM).f0 = true := h1
    have hg : lbts_Outputs.h0 lbts_Outputs.ow (l.getD i zM) = true := h2
    have ex : lbts_Outputs.x0 lbts_Outputs.ow lbts_Outputs.la (l.getD i zM) = lbts_Outputs.la (l.getD i zM) (lbts_Outputs.ow (l.getD i zM)).1 := by
      unfold lbts_Outputs.x0
      rw [h']
      rfl
    unfold lbts_Outputs.h0 at hg
    rw [h'] at hg
    simp only [if_true] at hg
    have hC : oth (fun j => (sysOf l).reg j && !(l.map (·.f0)).getD j false) (fun j => (l.map (lbts_Outputs.x0 lbts_Outputs.ow lbts_Outputs.la)).getD j 0) (i : Int) l.length = 1125899906842624 := by
      rcases oth_cases (fun j => (sysOf l).reg j && !(l.map (·.f0)).getD j false) (fun j => (l.map (lbts_Outputs.x0 lbts_Outputs.ow lbts_Outputs.la)).getD j 0) (i : Int) l.length with h | ⟨j, j1, _, j3, _⟩
      · exact h
      · rw [e3 j j1] at j3
        cases j3
    rw [e2 i hi, ex, hC]
    show lbts_Outputs.la (l.getD i zM) _ = lbts_Outputs.la (l.getD i zM) (mx (lbts_Outputs.cl (l.getD i zM).f2) (mn (mn (lbts_Outputs.cl (l.getD i zM).f5) (lbts_Outputs.cl (l.getD i zM).f6)) 1125899906842624))
    congr 1
    have c5 := lbts_Outputs.ck_range (l.getD i zM).f5
    rw [← cl_eq] at c5
    unfold lbts_Outputs.ow at hg ⊢
    split at hg
    · cases hg
    · rename_i n1
      rw [if_neg n1]
      split at hg
      · rename_i n2
        rw [if_pos n2]
        split at hg
        · rename_i n3
          rw [if_pos n3]
          simp only
          congr 1
          unfold mn
          omega
        · cases hg
      · cases hg
  · have h2' := e3 i hi
    have h1' : (sysOf l).reg i = true := h1
    rw [h1', h2] at h2'
    cases h2'

/-! lbts.Lbts -/
theorem lbts_loop (l : List Mb) (i : Int) (r : List Int) (hl : l.length ≤ 1000000) (hr : r.length = l.length) (d : Nat) : ∀ (k p : Nat), p ≤ l.length → l.length - p = d → d < k →
    lbts_Lbts.l0 k l i (oth (sysOf l).reg (fun j => r.getD j 0) i p) r (r.length : Int) (p : Int) = some (oth (sysOf l).reg (fun j => r.getD j 0) i l.length) := by
  induction d with
  | zero =>
    intro k p h0 hd hk
    obtain ⟨k, rfl⟩ : ∃ m, k = m + 1 := ⟨k - 1, by omega⟩
    simp only [lbts_Lbts.l0]
    rw [if_neg (by omega), show p = l.length by omega]
  | succ d ih =>
    intro k p h0 hd hk
    obtain ⟨k, rfl⟩ : ∃ m, k = m + 1 := ⟨k - 1, by omega⟩
    have hI := ih k (p + 1) (by omega) (by omega) (by omega)
    rw [oth] at hI
    rw [show ((p + 1 : Nat) : Int) = (p : Int) + 1 by omega] at hI
    simp only [lbts_Lbts.l0]
    rw [if_pos (by omega), if_pos (by omega), if_pos (by omega), wrap64_id (by omega) (by omega)]
    have eM : (rd_T30 l (p : Int)).f0 = (sysOf l).reg p := rfl
    rw [show rd r (p : Int) = r.getD p 0 from rfl]
    by_cases hi : (p : Int) = i
    · rw [if_pos hi]
      rw [if_neg (by simp [hi])] at hI
      exact hI
    · rw [if_neg hi, if_pos (by omega), eM]
      cases hg : (sysOf l).reg p with
      | true =>
        rw [if_pos rfl]
        rw [if_pos ⟨hi, hg⟩] at hI
        exact hI
      | false =>
        rw [if_neg (by simp)]
        rw [if_neg (by simp [hg])] at hI
        exact hI
theorem lbts_tells (l : List Mb) (hl : l.length ≤ 1000000) {r : List Int} (hf : lbts_Outputs.f l = some r) (hr : r.length = l.length) (k : Nat) (hk : l.length < k) (i : Int) :
    lbts_Lbts.f k l i = some (oth (sysOf l).reg (fun j => r.getD j 0) i l.length) := by
  unfold lbts_Lbts.f
  rw [hf]
  simp only [Option.bind_some]
  exact lbts_loop l i r hl hr l.length k 0 (by omega) (by omega) hk

theorem lbts_none (k : Nat) (hk : 0 < k) (i : Int) : lbts_Lbts.f k [] i = some 1125899906842624 := by
  obtain ⟨r, e1, e2, _⟩ := outputs_tells [] (by simp)
  rw [lbts_tells [] (by simp) e1 e2 k (by simpa using hk) i]
  rfl

section
variable (ts ls : List Int) (off : List Bool)
def idLook (i : Nat) : Int := if i < ls.length then 1 + ls.getD i 0 else 1
def idReg (i : Nat) : Bool := if i < off.length then !(off.getD i false) else true
def idM (i : Nat) : Mb := ⟨idReg off i, Int.tmod (i : Int) 2 == 0, ts.getD i 0, idLook ls i, 0, 7, 3⟩
def idL (p : Nat) : List Mb := (List.range p).map (idM ts ls off)
def idX (i : Nat) : Int := ts.getD i 0 + idLook ls i
end
theorem idL_len (ts ls : List Int) (off : List Bool) (p : Nat) : (idL ts ls off p).length = p := by
  unfold idL
  simp
theorem idL_getD (ts ls : List Int) (off : List Bool) (p j : Nat) (hj : j < p) : (idL ts ls off p).getD j zM = idM ts ls off j := by
  unfold idL
  rw [List.getD_eq_getElem?_getD, List.getElem?_map, List.getElem?_range hj]
  rfl
theorem idL_succ (ts ls : List Int) (off : List Bool) (p : Nat) : idL ts ls off (p + 1) = idL ts ls off p ++ [idM ts ls off p] := by
  unfold idL
  rw [List.range_succ, List.map_append]
  rfl
theorem idle_la (m : Mb) (h0 : 0 ≤ m.f2) (h1 : m.f2 ≤ 65535) (h2 : 1 ≤ m.f3) (h3 : m.f3 ≤ 256) : lbts_Outputs.la m (lbts_Outputs.cl m.f2) = m.f2 + m.f3 := by
  rw [la_eq, cl_eq]
  have e : look m = m.f3 := by
    unfold look mx mn
    repeat' split
    all_goals omega
  rw [e]
  unfold lbts_Outputs.ck
  rw [if_neg (show ¬ m.f2 < 0 by omega), if_neg (show ¬ m.f2 > 1099511627776 by omega), if_neg (show ¬ m.f2 < 0 by omega), if_neg (show ¬ m.f2 > 1099511627776 by omega), if_neg (by omega), if_neg (by omega)]
section
variable (ts ls : List Int) (off : List Bool) (hts : ∀ j, j < ts.length → 0 ≤ ts.getD j 0 ∧ ts.getD j 0 ≤ 65535) (hls : ∀ j, j < ls.length → 0 ≤ ls.getD j 0 ∧ ls.getD j 0 ≤ 255) (hn : ts.length ≤ 20)
include hls in
theorem idLook_range (j : Nat) : 1 ≤ idLook ls j ∧ idLook ls j ≤ 256 := by
  unfold idLook
  split
  · rename_i h
    have := hls j h
    omega
  · omega
include hts hls hn in
theorem idle_tells (k : Nat) (hk : 30 ≤ k) (i : Int) : lbts_Lbts.f k (idL ts ls off ts.length) i = some (oth (idReg off) (idX ts ls) i ts.length) := by
  obtain ⟨r, h1, h2, h3⟩ := outputs_tells (idL ts ls off ts.length) (by rw [idL_len]; omega)
  rw [lbts_tells _ (by rw [idL_len]; omega) h1 h2 k (by rw [idL_len]; omega) i]
  rw [idL_len] at h2 h3 ⊢
  congr 1
  have hreg : ∀ j, j < ts.length → (sysOf (idL ts ls off ts.length)).reg j = idReg off j := fun j hj => by
    show ((idL ts ls off ts.length).getD j zM).f0 = _
    rw [idL_getD _ _ _ _ _ hj]
    rfl
  refine oth_congr hreg (fun j hj hr => ?_)
  have e := h3 j hj
  have hb := hts j hj
  have hl := idLook_range ls hls j
  have hg : (sysOf (idL ts ls off ts.length)).hg j = false := by
    show lbts_Outputs.h0 lbts_Outputs.ow ((idL ts ls off ts.length).getD j zM) = false
    rw [idL_getD _ _ _ _ _ hj]
    unfold lbts_Outputs.h0 lbts_Outputs.ow idM
    simp
  have hv : (sysOf (idL ts ls off ts.length)).v j = idX ts ls j := by
    show lbts_Outputs.la ((idL ts ls off ts.length).getD j zM) (lbts_Outputs.ow ((idL ts ls off ts.length).getD j zM)).1 = _
    rw [idL_getD _ _ _ _ _ hj]
    have eo : (lbts_Outputs.ow (idM ts ls off j)).1 = lbts_Outputs.cl (idM ts ls off j).f2 := by
      unfold lbts_Outputs.ow idM
      simp
    rw [eo, idle_la _ hb.1 hb.2 hl.1 hl.2]
    rfl
  unfold Web.F at e
  rw [hr, hg, hv] at e
  simpa using e
include hts hls hn in
theorem idle_loop (c : Int) (d : Nat) : ∀ (k p : Nat), p ≤ ts.length → ts.length - p = d → 40 + 2 * d ≤ k →
    pacelinelaw18_LbtsIdle.l0 k ts ls off (idL ts ls off p) c (oth (idReg off) (idX ts ls) c p) (p : Int) = some true := by
  induction d with
  | zero =>
    intro k p h0 hd hk
    obtain ⟨k, rfl⟩ : ∃ m, k = m + 1 := ⟨k - 1, by omega⟩
    rw [pacelinelaw18_LbtsIdle.l0, if_neg (by omega), show p = ts.length by omega, idle_tells ts ls off hts hls hn k (by omega)]
    simp
  | succ d ih =>
    intro k p h0 hd hk
    obtain ⟨k, rfl⟩ : ∃ m, k = m + 2 := ⟨k - 2, by omega⟩
    have hI := ih k (p + 1) (by omega) (by omega) (by omega)
    have hp : p < ts.length := by omega
    have hb := hts p hp
    have hl := idLook_range ls hls p
    have hlen := idL_len ts ls off p
    rw [idL_succ, oth, show ((p + 1 : Nat) : Int) = (p : Int) + 1 by omega] at hI
    have hj : pacelinelaw18_LbtsIdle.l0 (k + 2) ts ls off (idL ts ls off p) c (oth (idReg off) (idX ts ls) c p) (p : Int) = pacelinelaw18_LbtsIdle.j2 (k + 1) ts ls off (idL ts ls off p) c (oth (idReg off) (idX ts ls) c p) (p : Int) (idLook ls p) := by
      rw [show k + 2 = (k + 1) + 1 by omega, pacelinelaw18_LbtsIdle.l0, if_pos (by omega)]
      unfold idLook
      by_cases hq : p < ls.length
      · have hlp := hls p hq
        rw [if_pos (by omega), if_pos (by omega), if_pos hq, show rd ls (p : Int) = ls.getD p 0 from rfl, wrap64_id (x := ls.getD p 0) (by omega) (by omega), wrap64_id (x := 1 + ls.getD p 0) (by omega) (by omega)]
      · rw [if_neg (by omega), if_neg hq]
    rw [hj, pacelinelaw18_LbtsIdle.j2]
    by_cases ho : (p : Int) ≥ (off.length : Int)
    · have er : idReg off p = true := by unfold idReg; rw [if_neg (by omega)]
      have eM : idM ts ls off p = ⟨true, Int.tmod (p : Int) 2 == 0, ts.getD p 0, idLook ls p, 0, 7, 3⟩ := by unfold idM; rw [er]
      rw [er, eM] at hI
      rw [if_pos ho, if_pos (by omega), if_pos (by omega), if_pos (by omega), show rd ts (p : Int) = ts.getD p 0 from rfl, wrap64_id (x := ts.getD p 0) (by omega) (by omega), wrap64_id (x := ts.getD p 0 + idLook ls p) (by omega) (by omega), wrap64_id (x := (p : Int) + 1) (by omega) (by omega)]
      simp only [Option.bind_some]
      by_cases hc : (p : Int) = c
      · rw [if_pos hc]
        rw [if_neg (by simp [hc])] at hI
        exact hI
      · rw [if_neg hc]
        rw [if_pos ⟨hc, rfl⟩] at hI
        exact hI
    · have er : idReg off p = !(off.getD p false) := by unfold idReg; rw [if_pos (by omega)]
      have eM : idM ts ls off p = ⟨!(off.getD p false), Int.tmod (p : Int) 2 == 0, ts.getD p 0, idLook ls p, 0, 7, 3⟩ := by unfold idM; rw [er]
      rw [er, eM] at hI
      rw [if_neg ho, if_pos (by omega), if_pos (by omega), if_pos (by omega), if_pos (by omega), show rd ts (p : Int) = ts.getD p 0 from rfl, show rdOf false off (p : Int) = off.getD p false from rfl, wrap64_id (x := ts.getD p 0) (by omega) (by omega), wrap64_id (x := ts.getD p 0 + idLook ls p) (by omega) (by omega), wrap64_id (x := (p : Int) + 1) (by omega) (by omega)]
      simp only [Option.bind_some]
      cases hof : off.getD p false with
      | true =>
        rw [hof] at hI
        rw [if_pos rfl]
        rw [if_neg (by simp)] at hI
        exact hI
      | false =>
        rw [hof] at hI
        rw [if_neg (by simp)]
        by_cases hc : (p : Int) = c
        · rw [if_pos hc]
          rw [if_neg (by simp [hc])] at hI
          exact hI
        · rw [if_neg hc]
          rw [if_pos ⟨hc, rfl⟩] at hI
          exact hI
end
theorem LbtsIdle : pacelinelaw18_LbtsIdle.Pure := by
  intro ts ls off i h0 h1 h2 h3
  have hts : ∀ j, j < ts.length → 0 ≤ ts.getD j 0 ∧ ts.getD j 0 ≤ 65535 := fun j hj => by
    have := wf_u16 (h0.2 (ts[j]) (List.getElem_mem hj))
    rw [List.getD_eq_getElem?_getD, List.getElem?_eq_getElem hj]
    exact this
  have hls : ∀ j, j < ls.length → 0 ≤ ls.getD j 0 ∧ ls.getD j 0 ≤ 255 := fun j hj => by
    have := wf_u8 (h1.2 (ls[j]) (List.getElem_mem hj))
    rw [List.getD_eq_getElem?_getD, List.getElem?_eq_getElem hj]
    exact this
  refine ⟨200 + 1, ?_⟩
  unfold pacelinelaw18_LbtsIdle.f
  by_cases hbig : (ts.length : Int) > 20
  · rw [if_pos hbig, pacelinelaw18_LbtsIdle.j0, if_pos rfl, lbts_none 200 (by omega)]
    rfl
  · rw [if_neg hbig, pacelinelaw18_LbtsIdle.j0]
    by_cases hz : (ts.length : Int) = 0
    · rw [if_pos (by simpa using hz), lbts_none 200 (by omega)]
      rfl
    · rw [if_neg (by simpa using hz), if_neg hz]
      exact idle_loop ts ls off hts hls (by omega) _ ts.length 200 0 (by omega) (by omega) (by omega)

end Go.Proofs.Yteomcpdfbaglaaa.Pure
