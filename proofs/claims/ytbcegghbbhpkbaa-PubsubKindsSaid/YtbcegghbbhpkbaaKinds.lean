/- Of PubsubKinds: the classes that are made of some numbers; who hears what. -/
import Derived.Test.YtbcegghbbhpkbaaSteps
namespace Go.Proofs.YtbcegghbbhpkbaaT
open Go.RowKit Go.Proofs.YtbcegghbbhpkbaaW.PrintWords Go.Proofs.YtbcegghbbhpkbaaU
set_option linter.unusedVariables false
set_option linter.unusedSimpArgs false
def kp (l0 : List Int) : Nat → List Int
  | 0 => []
  | i + 1 => kp l0 i ++ [rd l0 i % ((i : Int) + 1) - 1]
theorem kp_len (l0 : List Int) : ∀ n, (kp l0 n).length = n
  | 0 => rfl
  | n + 1 => by simp [kp, kp_len l0 n]
theorem kp_get (l0 : List Int) : ∀ n i, i < n → (kp l0 n).getD i 0 = rd l0 i % ((i : Int) + 1) - 1
  | 0, i, h => by omega
  | n + 1, i, h => by
    rw [kp, List.getD_eq_getElem?_getD]
    by_cases e : i < n
    · rw [List.getElem?_append_left (by rw [kp_len]; exact e), ← List.getD_eq_getElem?_getD]
      exact kp_get l0 n i e
    · obtain rfl : i = n := by omega
      rw [List.getElem?_append_right (by rw [kp_len]; omega), kp_len, Nat.sub_self]
      rfl
theorem kp_tree (l0 : List Int) (n : Nat) (h1 : 1 ≤ n) (h2 : n ≤ 16) : Tree (kp l0 n) := by
  refine ⟨by rw [kp_len]; exact h1, by rw [kp_len]; exact h2, fun i hi => ?_⟩
  rw [kp_len] at hi
  rw [kp_get l0 n i hi]
  have a := Int.emod_nonneg (rd l0 i) (show (i : Int) + 1 ≠ 0 by omega)
  have b := Int.emod_lt_of_pos (rd l0 i) (show (0 : Int) < (i : Int) + 1 by omega)
  omega
theorem LAt.of_C {V : Nat → Prop} {w : World} {A : Option Addr} {c : Nat} {l : List Int} (h : Kd.C (Kd.int .i64) w A l.length l) (hc : l.length ≤ c) (hl : 0 < l.length) (hV : ∀ k, V k → w.heap.size ≤ k) : LAt V w (.slice A l.length c) l :=
  ⟨A, c, rfl, hc, h, fun ad e hk => by
    subst e
    obtain ⟨ad', e', hx⟩ := h.2.2 hl
    injection e' with e'
    subst e'
    obtain ⟨cs, h1, h2, h3⟩ := hx 0 _ (List.getElem?_eq_getElem hl)
    have := World.block_lt_of_cell? w _ (h3 0 _ (List.getElem?_eq_getElem (by rw [h1]; show 0 < 1; omega)))
    rw [add_block] at this
    have := hV _ hk
    omega⟩
/-- Who subscribes to K alone hears of i just if K is above i. -/
theorem hears_one {ps : List Int} (ht : Tree ps) {g K : Nat} (hg : g < 8) (hK : K < ps.length) (i : Nat) (hi : i < ps.length) :
    hearsB (aw ps ps.length) (putW ps.length (List.replicate 8 0) g K true) g i = decide ((K : Int) ∈ upL ps i) := by
  rw [hears_same ht g i (Ls := putL ps.length (List.replicate 8 []) g K true) (fun h1 h2 => rel_put ht.2.1 rfl rfl (rel_new _ _ (by omega)) g K true)]
  unfold rhearB
  rw [decide_eq_true (errT_ok (by omega) (by omega)), Bool.true_and, putL_ok hg hK, Int.toNat_natCast, getD_set_self _ _ (by simp; exact hg)]
  have e : (List.replicate 8 ([] : List Int)).getD g [] = [] := by rw [List.getD_eq_getElem?_getD, List.getElem?_replicate, if_pos hg]; rfl
  rw [e, Bool.eq_iff_iff, List.any_eq_true, decide_eq_true_iff]
  constructor
  · rintro ⟨x, hx, h⟩
    have := of_decide_eq_true h
    rw [setL_mem] at this
    split at this
    · rename_i e
      exact e ▸ hx
    · cases this
  · intro h
    exact ⟨_, h, decide_eq_true (by rw [setL_mem, if_pos rfl])⟩
theorem hears_none {ps : List Int} (ht : Tree ps) {g g' K : Nat} (hg : g < 8) (hg' : g' < 8) (hne : g ≠ g') (hK : K < ps.length) (i : Nat) :
    hearsB (aw ps ps.length) (putW ps.length (List.replicate 8 0) g K true) g' i = false := by
  rw [hears_same ht g' i (Ls := putL ps.length (List.replicate 8 []) g K true) (fun h1 h2 => rel_put ht.2.1 rfl rfl (rel_new _ _ (by omega)) g K true)]
  unfold rhearB
  rw [putL_ok hg hK, Int.toNat_natCast, getD_set_other _ _ hne]
  have e : (List.replicate 8 ([] : List Int)).getD g' [] = [] := by rw [List.getD_eq_getElem?_getD, List.getElem?_replicate, if_pos hg']; rfl
  rw [e]
  simp
theorem hears_left {ab ss : List Int} {g : Nat} (hg : g < 8) (hs : ss.length = 8) (i : Int) : hearsB ab (leaveW ss g) g i = false := by
  unfold hearsB
  rw [leaveW_ok hg, Int.toNat_natCast, getD_set_self _ _ (by omega)]
  simp
/-- One step up. -/
theorem up_skip {ps : List Int} (h : Tree ps) {a k : Int} (h0 : 0 ≤ a) (h1 : a < (ps.length : Int)) (hk : a ≠ k) : (k ∈ upL ps a) = (k ∈ upL ps (rd ps a)) := by
  rw [upL_step h h0 h1, List.mem_cons]
  exact propext ⟨fun h => h.elim (fun e => absurd e.symm hk) id, .inr⟩
/-- K is above a just if it is above i. -/
def UpSame (ps : List Int) (K a i : Int) : Prop := (K ∈ upL ps a) = (K ∈ upL ps i)
end Go.Proofs.YtbcegghbbhpkbaaT
