/- The calls of the document's own table. -/
import Derived.Test.YtbcegghbbhpkbaaRefA
namespace Go.Proofs.YtbcegghbbhpkbaaT
open Go.RowKit Go.Proofs.YtbcegghbbhpkbaaW.PrintWords Go.Proofs.YtbcegghbbhpkbaaW.PrintLast Go.Proofs.YtbcegghbbhpkbaaW.PrintMore Go.Proofs.YtbcegghbbhpkbaaU Go.Proofs.Ytbcegghbbhpkbaa.PBase Go.Proofs.YtbcegghbbhpkbaaH
set_option linter.unusedVariables false
set_option linter.unusedSimpArgs false

/-! ### plain -/
theorem wrap64_in {x : Int} (h : -9223372036854775808 ≤ x) (h' : x ≤ 9223372036854775807) : wrap64 x = x := by unfold wrap64; omega
theorem has_loop (xs : List Int) (b : Int) (hx : xs.length ≤ 100000) (d : Nat) : ∀ (k : Nat) (i : Int), 0 ≤ i → i ≤ (xs.length : Int) → (xs.length : Int) - i = d → d < k →
    pacelineref05_Has.l0 k xs b i = some (decide (b ∈ xs.drop i.toNat)) := by
  induction d with
  | zero =>
    intro k i h0 h1 hd hk
    obtain ⟨k, rfl⟩ : ∃ m, k = m + 1 := ⟨k - 1, by omega⟩
    simp only [pacelineref05_Has.l0]
    rw [if_neg (by omega), List.drop_eq_nil_of_le (by omega)]
    simp
  | succ d ih =>
    intro k i h0 h1 hd hk
    obtain ⟨k, rfl⟩ : ∃ m, k = m + 1 := ⟨k - 1, by omega⟩
    have hlt : i.toNat < xs.length := by omega
    have e : xs.drop i.toNat = rd xs i :: xs.drop (i.toNat + 1) := by
      rw [List.drop_eq_getElem_cons hlt]
      unfold rd
      rw [List.getD_eq_getElem?_getD, List.getElem?_eq_getElem hlt]
      rfl
    simp only [pacelineref05_Has.l0]
    rw [if_pos (by omega), if_pos h0, e]
    by_cases hb : rd xs i = b
    · rw [if_pos hb, decide_eq_true (by rw [hb]; exact List.mem_cons_self)]
    · rw [if_neg hb, wrap64_in (by omega) (by omega), ih k (i + 1) (by omega) (by omega) (by omega) (by omega), show (i + 1).toNat = i.toNat + 1 by omega]
      congr 1
      simp [List.mem_cons, Ne.symm hb]
theorem rhas (xs : List Int) (b : Int) (hx : xs.length ≤ 100000) (k : Nat) (hk : xs.length < k) : pacelineref05_Has.f k xs b = some (decide (b ∈ xs)) := by
  unfold pacelineref05_Has.f
  rw [has_loop xs b hx xs.length k 0 (by omega) (by omega) (by omega) hk]
  rfl
theorem some_of_le {α : Type} {f : Nat → Option α} {v : α} {n : Nat} (h : ∀ k, n ≤ k → f k = some v) {k : Nat} (hk : n ≤ k) : f k = some v := h k hk
theorem rck_loop (ps : List Int) (h16 : ps.length ≤ 16) (d : Nat) : ∀ (k : Nat) (i : Int), 0 ≤ i → i ≤ (ps.length : Int) → (ps.length : Int) - i = d → d < k →
    ∃ r, pacelineref05_Check.l0 k ps i = some r ∧ (okFrom ps i → r = 0) ∧ (¬ okFrom ps i → r = 50) := by
  induction d with
  | zero =>
    intro k i h0 h1 hd hk
    obtain ⟨k, rfl⟩ : ∃ m, k = m + 1 := ⟨k - 1, by omega⟩
    exact ⟨0, by simp only [pacelineref05_Check.l0]; rw [if_neg (by omega)], fun _ => rfl, fun h => absurd (fun j hj hl => by omega) h⟩
  | succ d ih =>
    intro k i h0 h1 hd hk
    obtain ⟨k, rfl⟩ : ∃ m, k = m + 1 := ⟨k - 1, by omega⟩
    have hlt : i < (ps.length : Int) := by omega
    have hat : ∀ j : Nat, (j : Int) = i → ps.getD j 0 = rd ps i := fun j hj => by
      subst hj
      rfl
    simp only [pacelineref05_Check.l0]
    rw [if_pos hlt, if_pos h0]
    by_cases h2 : rd ps i < -1
    · exact ⟨50, by rw [if_pos h2], fun h => by have := h i.toNat (by omega) (by omega); rw [hat i.toNat (by omega)] at this; omega, fun _ => rfl⟩
    · rw [if_neg h2]
      by_cases h3 : rd ps i ≥ i
      · exact ⟨50, by rw [if_pos h3], fun h => by have := h i.toNat (by omega) (by omega); rw [hat i.toNat (by omega)] at this; omega, fun _ => rfl⟩
      · rw [if_neg h3, wrap64_in (by omega) (by omega)]
        obtain ⟨r, hr, ha, hb⟩ := ih k (i + 1) (by omega) (by omega) (by omega) (by omega)
        refine ⟨r, hr, fun h => ha (fun j hj hl => h j (by omega) hl), fun h => hb (fun h' => h (fun j hj hl => ?_))⟩
        by_cases e : (j : Int) = i
        · rw [hat j e]; omega
        · exact h' j (by omega) hl
theorem rck (ps : List Int) (k : Nat) (hk : 18 ≤ k) : pacelineref05_Check.f k ps = some (if treeB ps = true then 0 else 50) := by
  have hT := treeB_iff (ps := ps)
  obtain ⟨k, rfl⟩ : ∃ m, k = m + 1 := ⟨k - 1, by omega⟩
  unfold pacelineref05_Check.f
  by_cases h1 : (ps.length : Int) < 1
  · rw [if_pos h1, if_neg (fun h => by have := (hT.mp h).1; omega)]
    simp only [pacelineref05_Check.j0, if_true]
  · rw [if_neg h1]
    by_cases h2 : (ps.length : Int) > 16
    · rw [if_neg (fun h => by have := (hT.mp h).2.1; omega)]
      simp only [pacelineref05_Check.j0, decide_eq_true_eq]
      rw [if_pos h2]
    · simp only [pacelineref05_Check.j0, decide_eq_true_eq]
      rw [if_neg h2]
      obtain ⟨r, hr, ha, hb⟩ := rck_loop ps (by omega) ps.length k 0 (by omega) (by omega) (by omega) (by omega)
      rw [hr]
      by_cases ht : treeB ps = true
      · rw [if_pos ht, ha (fun j _ hl => (hT.mp ht).2.2 j hl)]
      · rw [if_neg ht, hb (fun h => ht (hT.mpr ⟨by omega, by omega, fun j hj => h j (by omega) hj⟩))]
theorem rabove_loop {ps : List Int} (ht : Tree ps) : ∀ a, a < (ps.length : Int) → ∀ (k : Nat) (acc : List Int), (a + 1).toNat < k → acc.length + (a + 1).toNat ≤ 100 →
    pacelineref05_Above.l0 k ps a acc = some (acc ++ upL ps a) := by
  refine up_induct ht (p := fun a => ∀ (k : Nat) (acc : List Int), (a + 1).toNat < k → acc.length + (a + 1).toNat ≤ 100 → pacelineref05_Above.l0 k ps a acc = some (acc ++ upL ps a)) ?_ ?_
  · intro a ha k acc hk hl
    obtain ⟨k, rfl⟩ : ∃ m, k = m + 1 := ⟨k - 1, by omega⟩
    simp only [pacelineref05_Above.l0]
    rw [if_neg (by omega), upL_neg ha, List.append_nil]
  · intro a h0 h1 ih k acc hk hl
    have hr := tree_rd ht h0 h1
    obtain ⟨k, rfl⟩ : ∃ m, k = m + 1 := ⟨k - 1, by omega⟩
    simp only [pacelineref05_Above.l0]
    rw [if_pos (by omega), if_pos (by omega), if_pos h0, if_pos h1, ih k _ (by omega) (by simp; omega), upL_step ht h0 h1]
    simp
theorem rabove (ps : List Int) (a : Int) (k : Nat) (hk : 20 ≤ k) : pacelineref05_Above.f k ps a = some (upL ps a) := by
  unfold pacelineref05_Above.f
  rw [rck ps k (by omega)]
  obtain ⟨k, rfl⟩ : ∃ m, k = m + 1 := ⟨k - 1, by omega⟩
  simp only [Option.bind_some]
  by_cases ht : treeB ps = true
  · have hT := treeB_iff.mp ht
    have := hT.2.1
    rw [if_pos ht, if_pos rfl]
    by_cases ha : a < 0
    · rw [if_pos ha, upL_neg ha]
      simp only [pacelineref05_Above.j0, if_true]
    · rw [if_neg ha]
      simp only [pacelineref05_Above.j0, decide_eq_true_eq]
      by_cases hl : a ≥ (ps.length : Int)
      · rw [if_pos hl, upL_out hl]
      · rw [if_neg hl, rabove_loop hT a (by omega) k [] (by omega) (by simp; omega)]
        simp
  · rw [if_neg ht, if_neg (by omega), upL_odd (fun h => ht (treeB_iff.mpr h))]
    simp only [pacelineref05_Above.j0, if_true]

def setL (l : List Int) (c : Int) (is : Bool) : List Int := l.filter (fun x => decide (x ≠ c)) ++ if is then [c] else []
theorem setL_len (l : List Int) (c : Int) (is : Bool) : (setL l c is).length ≤ l.length + 1 := by
  unfold setL
  have := List.length_filter_le (fun x => decide (x ≠ c)) l
  rw [List.length_append]
  cases is with
  | true => show _ + 1 ≤ _; omega
  | false => show _ + 0 ≤ _; omega
theorem rset_loop (l : List Int) (c : Int) (is : Bool) (hx : l.length ≤ 100000) (d : Nat) : ∀ (k : Nat) (acc : List Int) (i : Nat), i ≤ l.length → l.length - i = d → d < k → acc.length ≤ i →
    pacelineref06_set.l0 k l c is acc i = some (acc ++ setL (l.drop i) c is) := by
  induction d with
  | zero =>
    intro k acc i h1 hd hk ha
    obtain ⟨k, rfl⟩ : ∃ m, k = m + 1 := ⟨k - 1, by omega⟩
    simp only [pacelineref06_set.l0]
    rw [if_neg (by omega), List.drop_eq_nil_of_le (by omega)]
    cases is with
    | true => rw [if_pos rfl, if_pos (by omega)]; rfl
    | false => rw [if_neg (by decide)]; simp [setL]
  | succ d ih =>
    intro k acc i h1 hd hk ha
    obtain ⟨k, rfl⟩ : ∃ m, k = m + 1 := ⟨k - 1, by omega⟩
    have hlt : i < l.length := by omega
    have e : l.drop i = rd l i :: l.drop (i + 1) := by
      rw [List.drop_eq_getElem_cons hlt]
      unfold rd
      rw [Int.toNat_natCast, List.getD_eq_getElem?_getD, List.getElem?_eq_getElem hlt]
      rfl
    have hw : wrap64 ((i : Int) + 1) = ((i + 1 : Nat) : Int) := by unfold wrap64; omega
    simp only [pacelineref06_set.l0]
    rw [if_pos (by omega), if_pos (by omega), e, hw]
    by_cases hb : rd l i = c
    · rw [if_pos hb, ih k acc (i + 1) (by omega) (by omega) (by omega) (by omega)]
      simp [setL, List.filter_cons, hb]
    · rw [if_neg hb, if_pos (by omega), ih k _ (i + 1) (by omega) (by omega) (by omega) (by simp; omega)]
      simp [setL, List.filter_cons, hb]
theorem rset (l : List Int) (c : Int) (is : Bool) (hx : l.length ≤ 100000) : pacelineref06_set.f (l.length + 1) l c is = some (setL l c is) := by
  unfold pacelineref06_set.f
  have := rset_loop l c is hx l.length (l.length + 1) [] 0 (by omega) (by omega) (by omega) (by simp)
  simpa using this
def putL (n : Nat) (Lp : List (List Int)) (f c : Int) (is : Bool) : List (List Int) := if errT n f c = 0 then Lp.set f.toNat (setL (Lp.getD f.toNat []) c is) else Lp
theorem putL_no {n : Nat} {Lp : List (List Int)} {f c : Int} {is : Bool} (h : errT n f c ≠ 0) : putL n Lp f c is = Lp := if_neg h
theorem putL_ok {n : Nat} {Lp : List (List Int)} {F C : Nat} {is : Bool} (hf : F < 8) (hc : C < n) : putL n Lp F C is = Lp.set F (setL (Lp.getD F []) C is) := by
  unfold putL
  rw [if_pos (errT_ok (by omega) (by omega))]
  rfl
/-- A call's answer; the table then; what else has turned: nothing. -/
def PutR (V : Nat → Prop) (w : World) (b g h : Nat) (ps : List Int) (Lp Ls : List (List Int)) (r : Int) (e : Ending) (w' : World) : Prop := e = .returned (.int .i64 r) ∧ RTab V w' b g h ps Lp Ls ∧ But (fun k => k = g ∨ k = h) w w'
set_option maxHeartbeats 4000000 in
theorem rpublish_calls {V : Nat → Prop} {w : World} {b g h : Nat} {ps : List Int} {Lp Ls : List (List Int)} (H : RTab V w b g h ps Lp Ls) (hb : ∀ l ∈ Lp, l.length ≤ 1000) (f c : Int) (is : Bool) :
    Calls Try.prog 18 #[.pointer (some ⟨b, 0, none⟩), .int .i64 f, .int .i64 c, .bool is] w (PutR V w b g h ps (putL ps.length Lp f c is) Ls (errT ps.length f c)) := by
  have C1 := Aside0.mk (rcheck_calls H f c)
  by_cases he : errT ps.length f c = 0
  · obtain ⟨F, C, rfl, rfl, hF, hC⟩ := errT_inv he
    rw [putL_ok hF hC, he]
    rw [he] at C1
    obtain ⟨A, c0, q0, q1, q2⟩ := H.cp hF
    have q3 := H.c1
    have q4 := H.fp F
    have hlen : (Lp.getD F []).length ≤ 1000 := by
      rw [List.getD_eq_getElem?_getD, List.getElem?_eq_getElem (by have := H.lp; omega)]
      exact hb _ (List.getElem_mem _)
    have hF1 : (F : Int) < 8 := by omega
    have HH := Aside0.mk H
    generalize Lp.getD F [] = l at q0 q1 q2 hlen ⊢
    have CS := Aside0.mk (fun W (hW : Below w.heap.size w W) => pacelineref06_set.calls _ A c0 l (C : Int) is _ W (Kd.C_below q2 hW) q1 (rset l C is (by omega)))
    clear he H hC hb hlen q1 q2
    go_enter Try.func18, Try.ntmps18
    go_wp2_with (go_at_call 28; refine C1.out.mono ?_; rintro e w' ⟨rfl, rfl⟩)
    have HB := Aside0.mk (below_drew (Below.refl w.heap.size w))
    go_region_with ((go_at_call 29; refine (CS.out _ HB.out).mono ?_; rintro e w2 ⟨v, rfl, ho, hb⟩; obtain ⟨A1, c1, rfl⟩ := Kd.R_slice ho; have HO2 := Aside0.mk ho; have HB2 := Aside0.mk (below_step HB.out hb); clear ho hb; have k1 := pw_cell_below HB2.out q3; have k2 := pw_cell_below HB2.out q0; have k3 : w2.frozen? ⟨g, F, none⟩ = false := (HB2.out.frozen (p := ⟨g, F, none⟩) (World.block_lt_of_cell? w ⟨g, F, none⟩ q0)).trans q4))
    all_goals go_wp2
    all_goals go_ret
    all_goals exact ⟨rfl, (HH.out.below HB2.out).setp hF (LAt.of_R HO2.out (fun k hk => HH.out.lt k hk)), (But.of_below HB2.out).set (Or.inl rfl) _⟩
  · rw [putL_no he]
    have HE := Aside0.mk he
    have HH := Aside0.mk H
    have e1 : (errT ps.length f c == 0) = false := beq_eq_false_iff_ne.mpr he
    generalize errT ps.length f c = r at C1 HE e1
    clear H he
    go_enter Try.func18, Try.ntmps18
    go_wp2_with (go_at_call 28; refine C1.out.mono ?_; rintro e w' ⟨rfl, rfl⟩)
    go_ret
    exact ⟨rfl, HH.out, But.refl _ _⟩
set_option maxHeartbeats 4000000 in
theorem rsubscribe_calls {V : Nat → Prop} {w : World} {b g h : Nat} {ps : List Int} {Lp Ls : List (List Int)} (H : RTab V w b g h ps Lp Ls) (hb : ∀ l ∈ Ls, l.length ≤ 1000) (f c : Int) (is : Bool) :
    Calls Try.prog 11 #[.pointer (some ⟨b, 0, none⟩), .int .i64 f, .int .i64 c, .bool is] w (PutR V w b g h ps Lp (putL ps.length Ls f c is) (errT ps.length f c)) := by
  have C1 := Aside0.mk (rcheck_calls H f c)
  by_cases he : errT ps.length f c = 0
  · obtain ⟨F, C, rfl, rfl, hF, hC⟩ := errT_inv he
    rw [putL_ok hF hC, he]
    rw [he] at C1
    obtain ⟨A, c0, q0, q1, q2⟩ := H.cs hF
    have q3 := H.c2
    have q4 := H.fs F
    have hlen : (Ls.getD F []).length ≤ 1000 := by
      rw [List.getD_eq_getElem?_getD, List.getElem?_eq_getElem (by have := H.ls; omega)]
      exact hb _ (List.getElem_mem _)
    have hF1 : (F : Int) < 8 := by omega
    have HH := Aside0.mk H
    generalize Ls.getD F [] = l at q0 q1 q2 hlen ⊢
    have CS := Aside0.mk (fun W (hW : Below w.heap.size w W) => pacelineref06_set.calls _ A c0 l (C : Int) is _ W (Kd.C_below q2 hW) q1 (rset l C is (by omega)))
    clear he H hC hb hlen q1 q2
    go_enter Try.func11, Try.ntmps11
    go_wp2_with (go_at_call 28; refine C1.out.mono ?_; rintro e w' ⟨rfl, rfl⟩)
    have HB := Aside0.mk (below_drew (Below.refl w.heap.size w))
    go_region_with ((go_at_call 29; refine (CS.out _ HB.out).mono ?_; rintro e w2 ⟨v, rfl, ho, hb⟩; obtain ⟨A1, c1, rfl⟩ := Kd.R_slice ho; have HO2 := Aside0.mk ho; have HB2 := Aside0.mk (below_step HB.out hb); clear ho hb; have k1 := pw_cell_below HB2.out q3; have k2 := pw_cell_below HB2.out q0; have k3 : w2.frozen? ⟨h, F, none⟩ = false := (HB2.out.frozen (p := ⟨h, F, none⟩) (World.block_lt_of_cell? w ⟨h, F, none⟩ q0)).trans q4))
    all_goals go_wp2
    all_goals go_ret
    all_goals exact ⟨rfl, (HH.out.below HB2.out).sets hF (LAt.of_R HO2.out (fun k hk => HH.out.lt k hk)), (But.of_below HB2.out).set (Or.inr rfl) _⟩
  · rw [putL_no he]
    have HE := Aside0.mk he
    have HH := Aside0.mk H
    have e1 : (errT ps.length f c == 0) = false := beq_eq_false_iff_ne.mpr he
    generalize errT ps.length f c = r at C1 HE e1
    clear H he
    go_enter Try.func11, Try.ntmps11
    go_wp2_with (go_at_call 28; refine C1.out.mono ?_; rintro e w' ⟨rfl, rfl⟩)
    go_ret
    exact ⟨rfl, HH.out, But.refl _ _⟩

def leaveL (Lp : List (List Int)) (f : Int) : List (List Int) := if 0 ≤ f ∧ f < 8 then Lp.set f.toNat [] else Lp
theorem leaveL_no {Lp : List (List Int)} {f : Int} (h : ¬ (0 ≤ f ∧ f < 8)) : leaveL Lp f = Lp := if_neg h
theorem leaveL_ok {Lp : List (List Int)} {F : Nat} (h : F < 8) : leaveL Lp (F : Int) = Lp.set F [] := by
  unfold leaveL
  rw [if_pos (by omega)]
  rfl
set_option maxHeartbeats 4000000 in
theorem rleave_calls {V : Nat → Prop} {w : World} {b g h : Nat} {ps : List Int} {Lp Ls : List (List Int)} (H : RTab V w b g h ps Lp Ls) (f : Int) :
    Calls Try.prog 19 #[.pointer (some ⟨b, 0, none⟩), .int .i64 f] w (PutR V w b g h ps (leaveL Lp f) (leaveL Ls f) (errF f)) := by
  by_cases hf : 0 ≤ f ∧ f < 8
  · obtain ⟨F, rfl⟩ : ∃ F : Nat, f = F := ⟨f.toNat, by omega⟩
    have hF : F < 8 := by omega
    rw [leaveL_ok hF, leaveL_ok hF, show errF (F : Int) = 0 from if_pos hf]
    obtain ⟨A, c0, q0, _, _⟩ := H.cp hF
    have q3 := H.c1
    have q4 := H.fp F
    have H1 := H.setp hF (LAt.nil V w)
    have HT := Aside0.mk (H1.sets hF (LAt.nil V _))
    obtain ⟨A2, c2, r0, _, _⟩ := H1.cs hF
    have r3 := H1.c2
    have r4 := H1.fs F
    have HB := Aside0.mk (((But.refl (fun k => k = g ∨ k = h) w).set (p := ⟨g, F, none⟩) (Or.inl rfl) (.slice none 0 0)).set (p := ⟨h, F, none⟩) (Or.inr rfl) (.slice none 0 0))
    have hF1 : (F : Int) < 8 := by omega
    clear H hf H1
    go_enter Try.func19, Try.ntmps19
    go_wp2
    go_ret
    exact ⟨rfl, HT.out, HB.out⟩
  · rw [leaveL_no hf, leaveL_no hf, show errF f = 1 from if_neg hf]
    have HH := Aside0.mk H
    clear H
    by_cases h3 : 0 ≤ f
    · have h4 : 8 ≤ f := by omega
      clear hf
      go_enter Try.func19, Try.ntmps19
      go_wp2
      go_ret
      exact ⟨rfl, HH.out, But.refl _ _⟩
    · have h4 : f < 0 := by omega
      clear hf h3
      go_enter Try.func19, Try.ntmps19
      go_wp2
      go_ret
      exact ⟨rfl, HH.out, But.refl _ _⟩

def rpubB (n : Nat) (Lp : List (List Int)) (f c : Int) : Bool := decide (errT n f c = 0) && decide (c ∈ Lp.getD f.toNat [])
set_option maxHeartbeats 4000000 in
theorem rpublishes_calls {V : Nat → Prop} {w : World} {b g h : Nat} {ps : List Int} {Lp Ls : List (List Int)} (H : RTab V w b g h ps Lp Ls) (hb : ∀ l ∈ Lp, l.length ≤ 1000) (f c : Int) :
    Calls Try.prog 23 #[.pointer (some ⟨b, 0, none⟩), .int .i64 f, .int .i64 c] w fun e w' => e = .returned (.bool (rpubB ps.length Lp f c)) ∧ Below w.heap.size w w' := by
  have C1 := Aside0.mk (rcheck_calls H f c)
  by_cases he : errT ps.length f c = 0
  · obtain ⟨F, C, rfl, rfl, hF, hC⟩ := errT_inv he
    have hB : rpubB ps.length Lp (F : Int) (C : Int) = decide ((C : Int) ∈ Lp.getD F []) := by
      unfold rpubB
      rw [decide_eq_true he]
      rfl
    rw [hB]
    rw [he] at C1
    obtain ⟨A, c0, q0, q1, q2⟩ := H.cp hF
    have q3 := H.c1
    have hlen : (Lp.getD F []).length ≤ 1000 := by
      rw [List.getD_eq_getElem?_getD, List.getElem?_eq_getElem (by have := H.lp; omega)]
      exact hb _ (List.getElem_mem _)
    have hF1 : (F : Int) < 8 := by omega
    generalize Lp.getD F [] = l at q0 q1 q2 hlen ⊢
    have CS := Aside0.mk (pacelineref05_Has.calls _ A c0 l (C : Int) _ w q2 q1 (rhas l C (by omega) (l.length + 1) (by omega)))
    clear he H hC hb hlen q1 q2 hB
    go_enter Try.func23, Try.ntmps23
    go_wp2_with (first | (go_at_call 28; refine C1.out.mono ?_; rintro e w' ⟨rfl, rfl⟩) | (go_at_call 31; refine CS.out.mono ?_; rintro e w1 ⟨rfl, hd⟩; have HD := Aside0.mk hd.below; clear hd))
    go_ret
    exact ⟨rfl, HD.out⟩
  · have e1 : (errT ps.length f c == 0) = false := beq_eq_false_iff_ne.mpr he
    have hB : rpubB ps.length Lp f c = false := by
      unfold rpubB
      rw [decide_eq_false he]
      rfl
    rw [hB]
    generalize errT ps.length f c = r at C1 e1
    clear H he hB
    go_enter Try.func23, Try.ntmps23
    go_wp2_with (go_at_call 28; refine C1.out.mono ?_; rintro e w' ⟨rfl, rfl⟩)
    go_ret
    exact ⟨rfl, Below.refl _ _⟩
end Go.Proofs.YtbcegghbbhpkbaaT
