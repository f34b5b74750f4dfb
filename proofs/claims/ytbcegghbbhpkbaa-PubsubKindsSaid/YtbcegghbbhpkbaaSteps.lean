/- A step at a table; how the words of the one table and the lists of the other go together. -/
import Derived.Test.YtbcegghbbhpkbaaRefD
namespace Go.Proofs.YtbcegghbbhpkbaaT
open Go.RowKit Go.Proofs.YtbcegghbbhpkbaaW.PrintWords Go.Proofs.YtbcegghbbhpkbaaW.PrintLast Go.Proofs.YtbcegghbbhpkbaaW.PrintMore Go.Proofs.YtbcegghbbhpkbaaU Go.Proofs.Ytbcegghbbhpkbaa.PBase Go.Proofs.YtbcegghbbhpkbaaH
set_option linter.unusedVariables false
set_option linter.unusedSimpArgs false

/-! ### 1. does -/
def doE (n : Nat) (k f c : Int) : Int := if k = 0 ∨ k = 1 then errT n f c else if k = 2 then errF f else 0
def doP (n : Nat) (ps : List Int) (k f c : Int) (is : Bool) : List Int := if k = 0 then putW n ps f c is else if k = 2 then leaveW ps f else ps
def doS (n : Nat) (ss : List Int) (k f c : Int) (is : Bool) : List Int := if k = 1 then putW n ss f c is else if k = 2 then leaveW ss f else ss
theorem below_but {S : Nat → Prop} {w a b : World} (h : Below w.heap.size w a) (k : But S a b) : But S w b := (But.of_below h).trans k
set_option maxHeartbeats 1000000 in
theorem does_calls {w : World} {b a m : Nat} {ab ps ss : List Int} (H : Tab w b a m ab ps ss) (k f c : Int) (is : Bool) :
    Calls Try.prog 15 #[.pointer (some ⟨b, 0, none⟩), .agg #[.int .i64 k, .int .i64 f, .int .i64 c, .bool is]] w (PutP w b a m ab (doP ab.length ps k f c is) (doS ab.length ss k f c is) (doE ab.length k f c)) := by
  have HH := Aside0.mk H
  have BW := Aside0.mk (below_alloc (Below.refl w.heap.size w) (.cells #[.int .i64 k, .int .i64 f, .int .i64 c, .bool is] 38 (0, 0)))
  by_cases h0 : k = 0
  · subst h0
    rw [show doP ab.length ps 0 f c is = putW ab.length ps f c is from rfl, show doS ab.length ss 0 f c is = ss from rfl, show doE ab.length 0 f c = errT ab.length f c from rfl]
    have CP := Aside0.mk (publish_calls (H.below BW.out) f c is)
    clear H
    go_enter Try.func15, Try.ntmps15
    go_wp2_with (go_at_call 17; refine CP.out.mono ?_; rintro e w1 ⟨rfl, ht, hb⟩; have HT := Aside0.mk ht; have HB := Aside0.mk hb; clear ht hb)
    go_ret
    exact ⟨rfl, HT.out, below_but BW.out HB.out⟩
  · by_cases h1 : k = 1
    · subst h1
      rw [show doP ab.length ps 1 f c is = ps from rfl, show doS ab.length ss 1 f c is = putW ab.length ss f c is from rfl, show doE ab.length 1 f c = errT ab.length f c from rfl]
      have CP := Aside0.mk (subscribe_calls (H.below BW.out) f c is)
      clear H
      go_enter Try.func15, Try.ntmps15
      go_wp2_with (go_at_call 10; refine CP.out.mono ?_; rintro e w1 ⟨rfl, ht, hb⟩; have HT := Aside0.mk ht; have HB := Aside0.mk hb; clear ht hb)
      go_ret
      exact ⟨rfl, HT.out, below_but BW.out HB.out⟩
    · by_cases h2 : k = 2
      · subst h2
        rw [show doP ab.length ps 2 f c is = leaveW ps f from rfl, show doS ab.length ss 2 f c is = leaveW ss f from rfl, show doE ab.length 2 f c = errF f from rfl]
        have CP := Aside0.mk (leave_calls (H.below BW.out) f)
        clear H
        go_enter Try.func15, Try.ntmps15
        go_wp2_with (go_at_call 14; refine CP.out.mono ?_; rintro e w1 ⟨rfl, ht, hb⟩; have HT := Aside0.mk ht; have HB := Aside0.mk hb; clear ht hb)
        go_ret
        exact ⟨rfl, HT.out, below_but BW.out HB.out⟩
      · rw [show doP ab.length ps k f c is = ps by unfold doP; rw [if_neg h0, if_neg h2], show doS ab.length ss k f c is = ss by unfold doS; rw [if_neg h1, if_neg h2], show doE ab.length k f c = 0 by unfold doE; rw [if_neg (by omega), if_neg h2]]
        have e0 : (k == 0) = false := beq_eq_false_iff_ne.mpr h0
        have e1 : (k == 1) = false := beq_eq_false_iff_ne.mpr h1
        have e2 : (k == 2) = false := beq_eq_false_iff_ne.mpr h2
        clear H h0 h1 h2
        go_enter Try.func15, Try.ntmps15
        go_wp2
        go_ret
        exact ⟨rfl, HH.out.below BW.out, But.of_below BW.out⟩

/-! ### 2. words and lists -/
/-- Federate f's word and its list say the same, of the first n classes. -/
def RelAt (n : Nat) (ws : List Int) (Ls : List (List Int)) (f : Nat) : Prop := ∀ c : Nat, c < n → (ws.getD f 0).toNat.testBit c = decide ((c : Int) ∈ Ls.getD f [])
def Rel (n : Nat) (ws : List Int) (Ls : List (List Int)) : Prop := ∀ f : Nat, f < 8 → RelAt n ws Ls f
theorem getD_set_self {α : Type} {l : List α} {i : Nat} (x d : α) (h : i < l.length) : (l.set i x).getD i d = x := by
  rw [List.getD_eq_getElem?_getD, List.getElem?_set_self h]
  rfl
theorem getD_set_other {α : Type} {l : List α} {i j : Nat} (x d : α) (h : i ≠ j) : (l.set i x).getD j d = l.getD j d := by
  rw [List.getD_eq_getElem?_getD, List.getElem?_set_ne h, ← List.getD_eq_getElem?_getD]
theorem setL_mem {l : List Int} {c d : Int} {is : Bool} : (d ∈ setL l c is) ↔ if d = c then is = true else d ∈ l := by
  unfold setL
  rw [List.mem_append, List.mem_filter]
  by_cases e : d = c
  · subst e
    cases is <;> simp
  · cases is <;> simp [e]
theorem rel_put {n : Nat} {ws : List Int} {Ls : List (List Int)} (hn : n ≤ 16) (hw : ws.length = 8) (hL : Ls.length = 8) {g : Nat} (h : RelAt n ws Ls g) (f c : Int) (is : Bool) : RelAt n (putW n ws f c is) (putL n Ls f c is) g := by
  by_cases he : errT n f c = 0
  · obtain ⟨F, C, rfl, rfl, hF, hC⟩ := errT_inv he
    rw [putW_ok hF hC, putL_ok hF hC]
    by_cases e : F = g
    · subst e
      intro d hd
      rw [getD_set_self _ _ (by omega), getD_set_self _ _ (by omega), setBit_test is (by omega) (by omega), h d hd]
      by_cases e : d = C
      · subst e
        rw [if_pos rfl]
        cases is <;> simp [setL_mem]
      · rw [if_neg e]
        have : ¬ ((d : Int) = (C : Int)) := by omega
        simp [setL_mem, this]
    · intro d hd
      rw [getD_set_other _ _ e, getD_set_other _ _ e]
      exact h d hd
  · rw [putW_no he, putL_no he]
    exact h
theorem rel_leave {n : Nat} {ws : List Int} {Ls : List (List Int)} (hw : ws.length = 8) (hL : Ls.length = 8) {g : Nat} (h : RelAt n ws Ls g) (f : Int) : RelAt n (leaveW ws f) (leaveL Ls f) g := by
  by_cases hf : 0 ≤ f ∧ f < 8
  · obtain ⟨F, rfl⟩ : ∃ F : Nat, f = F := ⟨f.toNat, by omega⟩
    rw [leaveW_ok (by omega), leaveL_ok (by omega)]
    by_cases e : F = g
    · subst e
      intro d hd
      rw [getD_set_self _ _ (by omega), getD_set_self _ _ (by omega)]
      simp
    · intro d hd
      rw [getD_set_other _ _ e, getD_set_other _ _ e]
      exact h d hd
  · rw [leaveW_no hf, leaveL_no hf]
    exact h
theorem rel_new (n : Nat) : Rel n (List.replicate 8 0) (List.replicate 8 []) := fun f hf c hc => by
  have e1 : (List.replicate 8 (0 : Int)).getD f 0 = 0 := by rw [List.getD_eq_getElem?_getD, List.getElem?_replicate, if_pos hf]; rfl
  have e2 : (List.replicate 8 ([] : List Int)).getD f [] = [] := by rw [List.getD_eq_getElem?_getD, List.getElem?_replicate, if_pos hf]; rfl
  rw [e1, e2]
  simp
theorem pubs_same {n : Nat} {ws : List Int} {Ls : List (List Int)} (f c : Int) (h : 0 ≤ f → f < 8 → RelAt n ws Ls f.toNat) : pubsB n ws f c = rpubB n Ls f c := by
  unfold pubsB rpubB
  by_cases he : errT n f c = 0
  · obtain ⟨F, C, rfl, rfl, hF, hC⟩ := errT_inv he
    have := h (by omega) (by omega) C hC
    rw [Int.toNat_natCast] at this
    rw [Int.toNat_natCast, Int.toNat_natCast, this]
  · rw [decide_eq_false he]
    rfl
theorem hears_same {ps ws : List Int} {Ls : List (List Int)} (ht : Tree ps) (f c : Int) (h : 0 ≤ f → f < 8 → RelAt ps.length ws Ls f.toNat) : hearsB (aw ps ps.length) ws f c = rhearB ps Ls f c := by
  unfold hearsB rhearB
  rw [aw_len]
  by_cases he : errT ps.length f c = 0
  · obtain ⟨F, C, rfl, rfl, hF, hC⟩ := errT_inv he
    have hr := h (by omega) (by omega)
    rw [decide_eq_true he, Bool.true_and, Bool.true_and, Int.toNat_natCast, Int.toNat_natCast]
    rw [Int.toNat_natCast] at hr
    have hb := aw_bit ht ps.length (Nat.le_refl _) C hC
    replace hr : ∀ c : Nat, c < ps.length → (ws.getD F 0).toNat.testBit c = decide ((c : Int) ∈ Ls.getD F []) := fun c hc => hr c hc
    generalize (ws.getD F 0).toNat = x at hr ⊢
    rw [Bool.eq_iff_iff, bne_iff_ne, List.any_eq_true]
    constructor
    · intro hx
      have : ∃ d, ((x &&& ((aw ps ps.length).getD C 0).toNat)).testBit d = true := by
        rcases Nat.eq_zero_or_pos (x &&& ((aw ps ps.length).getD C 0).toNat) with h0 | h0
        · exact absurd h0 hx
        · obtain ⟨d, hd⟩ := Nat.exists_testBit_of_ne_zero hx
          exact ⟨d, hd⟩
      obtain ⟨d, hd⟩ := this
      rw [Nat.testBit_and, Bool.and_eq_true, hb d] at hd
      obtain ⟨h1, h2⟩ := hd
      have hm := of_decide_eq_true h2
      have hle := up_le ht (by omega) hm
      rw [hr d (by omega)] at h1
      exact ⟨d, hm, h1⟩
    · rintro ⟨z, hz, hz2⟩
      have hle := up_le ht (by omega) hz
      obtain ⟨d, rfl⟩ : ∃ d : Nat, z = d := ⟨z.toNat, by omega⟩
      intro h0
      have : ((x &&& ((aw ps ps.length).getD C 0).toNat)).testBit d = true := by
        rw [Nat.testBit_and, hb d, hr d (by omega), decide_eq_true hz]
        simpa using hz2
      rw [h0] at this
      simp at this
  · rw [decide_eq_false he]
    rfl
theorem route_same {ps ws vs : List Int} {Lp Ls : List (List Int)} (ht : Tree ps) (hp : Rel ps.length ws Lp) (hs : Rel ps.length vs Ls) (f c : Int) : routeL (aw ps ps.length) vs f c = rrouteL ps Ls f c ∧ routeE ps.length ws f c = rrouteE ps.length Lp f c := by
  constructor
  · unfold routeL rrouteL rrouteP
    refine List.filter_congr fun g hg => ?_
    rw [hears_same ht g c (fun h1 h2 => hs g.toNat (by omega))]
  · unfold routeE rrouteE
    rw [pubs_same f c (fun h1 h2 => hp f.toNat (by omega))]
/-! ### 3. lists stay short -/
def Short (Ls : List (List Int)) (k : Nat) : Prop := ∀ l ∈ Ls, l.length ≤ k
theorem short_put {n : Nat} {Ls : List (List Int)} {k : Nat} (h : Short Ls k) (f c : Int) (is : Bool) : Short (putL n Ls f c is) (k + 1) := by
  intro l hl
  unfold putL at hl
  split at hl
  · rcases List.mem_or_eq_of_mem_set hl with hl | rfl
    · have := h l hl
      omega
    · have h1 := setL_len (Ls.getD f.toNat []) c is
      have h2 : (Ls.getD f.toNat []).length ≤ k := by
        rw [List.getD_eq_getElem?_getD]
        rcases Nat.lt_or_ge f.toNat Ls.length with hi | hi
        · rw [List.getElem?_eq_getElem hi]
          exact h _ (List.getElem_mem hi)
        · rw [List.getElem?_eq_none hi]
          simp
      omega
  · have := h l hl
    omega
theorem short_leave {Ls : List (List Int)} {k : Nat} (h : Short Ls k) (f : Int) : Short (leaveL Ls f) (k + 1) := by
  intro l hl
  unfold leaveL at hl
  split at hl
  · rcases List.mem_or_eq_of_mem_set hl with hl | rfl
    · have := h l hl
      omega
    · simp
  · have := h l hl
    omega
theorem short_more {Ls : List (List Int)} {k j : Nat} (h : Short Ls k) (hk : k ≤ j) : Short Ls j := fun l hl => Nat.le_trans (h l hl) hk
theorem short_new (k : Nat) : Short (List.replicate 8 []) k := fun l hl => by
  rw [List.eq_of_mem_replicate hl]
  simp
/-! ### 4. a slice that was typed -/
theorem lit_reads (w : World) (l : List Int) (hl : l.length ≤ 9223372036854775807) : Kd.C (Kd.int .i64) (w.alloc (.cells (nums .i64 l).toArray 3 (0, 0))) (some ⟨w.heap.size, 0, none⟩) l.length l := by
  refine ⟨rfl, hl, fun _ => ⟨_, rfl, fun j p hj => ⟨[.int .i64 p], rfl, rfl, fun i u hu => ?_⟩⟩⟩
  match i, hu with
  | 0, hu =>
    obtain rfl := Option.some.inj hu
    rw [add_plain, blk_cell (blk_new w _)]
    show (nums .i64 l).toArray[j * 1 + 0]? = _
    simp [nums, hj]
  | i + 1, hu => simp at hu
/-! ### 5. the first ones of those that a message goes to -/
theorem routeP_part (ab ss : List Int) (f c : Int) (k : Nat) : ∀ d, ∃ r, routeP ab ss f c (k + d) = routeP ab ss f c k ++ r
  | 0 => ⟨[], by simp⟩
  | d + 1 => by
    obtain ⟨r, hr⟩ := routeP_part ab ss f c k d
    exact ⟨r ++ (if (decide (((k + d : Nat) : Int) ≠ f) && hearsB ab ss (k + d : Nat) c) = true then [((k + d : Nat) : Int)] else []), by rw [show k + (d + 1) = (k + d) + 1 by omega, routeP_step, hr, List.append_assoc]⟩
theorem routeP_get (ab ss : List Int) (f c : Int) (k : Nat) (hk : k < 8) (h : (decide ((k : Int) ≠ f) && hearsB ab ss k c) = true) :
    (routeP ab ss f c k).length < (routeL ab ss f c).length ∧ rd (routeL ab ss f c) ((routeP ab ss f c k).length : Int) = k ∧ routeP ab ss f c (k + 1) = routeP ab ss f c k ++ [(k : Int)] := by
  have h1 : routeP ab ss f c (k + 1) = routeP ab ss f c k ++ [(k : Int)] := by rw [routeP_step, if_pos h]
  obtain ⟨r, hr⟩ := routeP_part ab ss f c (k + 1) (8 - (k + 1))
  rw [show k + 1 + (8 - (k + 1)) = 8 by omega, h1, List.append_assoc] at hr
  have hL : routeL ab ss f c = routeP ab ss f c k ++ ([(k : Int)] ++ r) := hr
  refine ⟨by rw [hL]; simp, ?_, h1⟩
  rw [hL]
  unfold rd
  rw [Int.toNat_natCast, List.getD_eq_getElem?_getD, List.getElem?_append_right (Nat.le_refl _), Nat.sub_self]
  rfl
/-! ### 6. two that are one but for federate F -/
def Agree (F : Nat) (ps qs : List Int) : Prop := ∀ g : Nat, g < 8 → g ≠ F → ps.getD g 0 = qs.getD g 0
theorem agree_put {F n : Nat} {ps qs : List Int} (hp : ps.length = 8) (hq : qs.length = 8) (h : Agree F ps qs) (f c : Int) (is : Bool) : Agree F (putW n ps f c is) (putW n qs f c is) := by
  by_cases he : errT n f c = 0
  · obtain ⟨f, c, rfl, rfl, hf, hc⟩ := errT_inv he
    rw [putW_ok hf hc, putW_ok hf hc]
    intro g hg hgF
    by_cases e : f = g
    · subst e
      rw [getD_set_self _ _ (by omega), getD_set_self _ _ (by omega), h f hg hgF]
    · rw [getD_set_other _ _ e, getD_set_other _ _ e]
      exact h g hg hgF
  · rw [putW_no he, putW_no he]
    exact h
theorem agree_put1 {F n : Nat} {ps qs : List Int} (hp : ps.length = 8) (h : Agree F ps qs) (c : Int) (is : Bool) : Agree F (putW n ps F c is) qs := by
  by_cases he : errT n F c = 0
  · obtain ⟨f, c, e1, rfl, hf, hc⟩ := errT_inv he
    obtain rfl : F = f := by omega
    rw [putW_ok hf hc]
    intro g hg hgF
    rw [getD_set_other _ _ (Ne.symm hgF)]
    exact h g hg hgF
  · rw [putW_no he]
    exact h
theorem agree_leave {F : Nat} {ps qs : List Int} (hp : ps.length = 8) (hq : qs.length = 8) (h : Agree F ps qs) (f : Int) : Agree F (leaveW ps f) (leaveW qs f) := by
  by_cases hf : 0 ≤ f ∧ f < 8
  · obtain ⟨f, rfl⟩ : ∃ n : Nat, f = n := ⟨f.toNat, by omega⟩
    rw [leaveW_ok (by omega), leaveW_ok (by omega)]
    intro g hg hgF
    by_cases e : f = g
    · subst e
      rw [getD_set_self _ _ (by omega), getD_set_self _ _ (by omega)]
    · rw [getD_set_other _ _ e, getD_set_other _ _ e]
      exact h g hg hgF
  · rw [leaveW_no hf, leaveW_no hf]
    exact h
theorem agree_leave1 {F : Nat} {ps qs : List Int} (h : Agree F ps qs) : Agree F (leaveW ps F) qs := by
  by_cases hf : F < 8
  · rw [leaveW_ok hf]
    intro g hg hgF
    rw [getD_set_other _ _ (Ne.symm hgF)]
    exact h g hg hgF
  · rw [leaveW_no (by omega)]
    exact h
theorem agree_doP {F n : Nat} {ps qs : List Int} (hp : ps.length = 8) (hq : qs.length = 8) (h : Agree F ps qs) (k f c : Int) (is : Bool) : Agree F (doP n ps k f c is) (doP n qs k f c is) := by
  unfold doP
  split
  · exact agree_put hp hq h f c is
  · split
    · exact agree_leave hp hq h f
    · exact h
theorem agree_doS {F n : Nat} {ps qs : List Int} (hp : ps.length = 8) (hq : qs.length = 8) (h : Agree F ps qs) (k f c : Int) (is : Bool) : Agree F (doS n ps k f c is) (doS n qs k f c is) := by
  unfold doS
  split
  · exact agree_put hp hq h f c is
  · split
    · exact agree_leave hp hq h f
    · exact h
theorem agree_doP1 {F n : Nat} {ps qs : List Int} (hp : ps.length = 8) (h : Agree F ps qs) (k c : Int) (is : Bool) : Agree F (doP n ps k F c is) qs := by
  unfold doP
  split
  · exact agree_put1 hp h c is
  · split
    · exact agree_leave1 h
    · exact h
theorem agree_doS1 {F n : Nat} {ps qs : List Int} (hp : ps.length = 8) (h : Agree F ps qs) (k c : Int) (is : Bool) : Agree F (doS n ps k F c is) qs := by
  unfold doS
  split
  · exact agree_put1 hp h c is
  · split
    · exact agree_leave1 h
    · exact h
theorem agree_pubs {F n : Nat} {ps qs : List Int} (h : Agree F ps qs) {g c : Nat} (hg : g < 8) (hgF : g ≠ F) : pubsB n ps g c = pubsB n qs g c := by
  unfold pubsB
  rw [Int.toNat_natCast, h g hg hgF]
theorem agree_hears {F : Nat} {ab ps qs : List Int} (h : Agree F ps qs) {g c : Nat} (hg : g < 8) (hgF : g ≠ F) : hearsB ab ps g c = hearsB ab qs g c := by
  unfold hearsB
  rw [Int.toNat_natCast, h g hg hgF]
/-! ### 7. one list is as it is -/
theorem same_loop (xs : List Int) (hx : xs.length ≤ 100000) (d : Nat) : ∀ (k : Nat) (i : Int), 0 ≤ i → i ≤ (xs.length : Int) → (xs.length : Int) - i = d → d < k → pacelinelaw06_same.l0 k xs xs i = some true := by
  induction d with
  | zero =>
    intro k i h0 h1 hd hk
    obtain ⟨k, rfl⟩ : ∃ m, k = m + 1 := ⟨k - 1, by omega⟩
    simp only [pacelinelaw06_same.l0]
    rw [if_neg (by omega)]
  | succ d ih =>
    intro k i h0 h1 hd hk
    obtain ⟨k, rfl⟩ : ∃ m, k = m + 1 := ⟨k - 1, by omega⟩
    simp only [pacelinelaw06_same.l0, if_true]
    rw [if_pos (by omega), if_pos h0, if_pos (by omega), wrap64_in (by omega) (by omega)]
    exact ih k (i + 1) (by omega) (by omega) (by omega) (by omega)
theorem same_self (xs : List Int) (hx : xs.length ≤ 100000) (k : Nat) (hk : xs.length < k) : pacelinelaw06_same.f k xs xs = some true := by
  unfold pacelinelaw06_same.f
  rw [if_pos rfl]
  exact same_loop xs hx xs.length k 0 (by omega) (by omega) (by omega) hk

/-! ### 8. a step of both -/
def doLp (n : Nat) (Lp : List (List Int)) (k f c : Int) (is : Bool) : List (List Int) := if k = 0 then putL n Lp f c is else if k = 2 then leaveL Lp f else Lp
def doLs (n : Nat) (Ls : List (List Int)) (k f c : Int) (is : Bool) : List (List Int) := if k = 1 then putL n Ls f c is else if k = 2 then leaveL Ls f else Ls
theorem rel_doP {n : Nat} {ps : List Int} {Lp : List (List Int)} (hn : n ≤ 16) (hw : ps.length = 8) (hL : Lp.length = 8) {g : Nat} (h : RelAt n ps Lp g) (k f c : Int) (is : Bool) : RelAt n (doP n ps k f c is) (doLp n Lp k f c is) g := by
  unfold doP doLp
  split
  · exact rel_put hn hw hL h f c is
  · split
    · exact rel_leave hw hL h f
    · exact h
theorem rel_doS {n : Nat} {ps : List Int} {Lp : List (List Int)} (hn : n ≤ 16) (hw : ps.length = 8) (hL : Lp.length = 8) {g : Nat} (h : RelAt n ps Lp g) (k f c : Int) (is : Bool) : RelAt n (doS n ps k f c is) (doLs n Lp k f c is) g := by
  unfold doS doLs
  split
  · exact rel_put hn hw hL h f c is
  · split
    · exact rel_leave hw hL h f
    · exact h
theorem short_doLp {n : Nat} {Lp : List (List Int)} {j : Nat} (h : Short Lp j) (k f c : Int) (is : Bool) : Short (doLp n Lp k f c is) (j + 1) := by
  unfold doLp
  split
  · exact short_put h f c is
  · split
    · exact short_leave h f
    · exact short_more h (by omega)
theorem short_doLs {n : Nat} {Lp : List (List Int)} {j : Nat} (h : Short Lp j) (k f c : Int) (is : Bool) : Short (doLs n Lp k f c is) (j + 1) := by
  unfold doLs
  split
  · exact short_put h f c is
  · split
    · exact short_leave h f
    · exact short_more h (by omega)
end Go.Proofs.YtbcegghbbhpkbaaT
