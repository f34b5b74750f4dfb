/- The table of the document's own text: what its cells say; its calls. -/
import Derived.Test.YtbcegghbbhpkbaaPubC
import Derived.Test.YtbcegghbbhpkbaaHeld
namespace Go.Proofs.YtbcegghbbhpkbaaT
open Go.RowKit Go.Proofs.YtbcegghbbhpkbaaW.PrintWords Go.Proofs.YtbcegghbbhpkbaaW.PrintLast Go.Proofs.YtbcegghbbhpkbaaW.PrintMore Go.Proofs.YtbcegghbbhpkbaaU Go.Proofs.Ytbcegghbbhpkbaa.PBase Go.Proofs.YtbcegghbbhpkbaaH
set_option linter.unusedVariables false
set_option linter.unusedSimpArgs false

theorem add_block (ad : Addr) (j : Nat) : (ad.add j).block = ad.block := by unfold Addr.add; split <;> rfl
/-- A slice of whole numbers that is read, apart from the blocks V. -/
def LAt (V : Nat → Prop) (w : World) (v : Value) (l : List Int) : Prop := ∃ A c, v = .slice A l.length c ∧ l.length ≤ c ∧ Kd.C (Kd.int .i64) w A l.length l ∧ ∀ ad, A = some ad → ¬ V ad.block
theorem LAt.but {V S : Nat → Prop} {w w' : World} {v : Value} {l : List Int} (H : LAt V w v l) (h : But S w w') (hs : ∀ k, S k → V k) : LAt V w' v l := by
  obtain ⟨A, c, rfl, hc, hC, hV⟩ := H
  refine ⟨A, c, rfl, hc, ⟨hC.1, hC.2.1, fun hn => ?_⟩, hV⟩
  obtain ⟨ad, rfl, hx⟩ := hC.2.2 hn
  refine ⟨ad, rfl, fun j p hj => ?_⟩
  obtain ⟨cs, h1, h2, h3⟩ := hx j p hj
  exact ⟨cs, h1, h2, fun i u hu => h.cell (h3 i u hu) (by rw [add_block]; exact fun hk => hV ad rfl (hs _ hk))⟩
theorem LAt.nil (V : Nat → Prop) (w : World) : LAt V w (.slice none 0 0) [] := ⟨none, 0, rfl, Nat.le_refl _, ⟨rfl, by decide, fun h => absurd h (by decide)⟩, fun ad h => by cases h⟩
/-- What was made since lies apart. -/
theorem LAt.of_R {V : Nat → Prop} {w : World} {base : Nat} {v : Value} {l : List Int} (h : Kd.R (Kd.int .i64) 3 w base (fun _ => True) v l) (hV : ∀ k, V k → k < base) : LAt V w v l := by
  have hr := Kd.R_reads h
  obtain ⟨A, c, rfl, hc, hC⟩ := hr
  exact ⟨A, c, rfl, hc, hC, fun ad e hk => by
    subst e
    have := ((Kd.R_bound h).1 ad.block rfl).2.1
    have := hV _ hk
    omega⟩
/-- The table's three blocks, its list of classes, its lists of what each publishes, and subscribes to. -/
structure RTab (V : Nat → Prop) (w : World) (b g h : Nat) (ps : List Int) (Lp Ls : List (List Int)) : Prop where
  blk : ∃ vp, w.heap[b]? = some (.cells #[vp, .slice (some ⟨g, 0, none⟩) 8 8, .slice (some ⟨h, 0, none⟩) 8 8] 54 (0, 0)) ∧ LAt V w vp ps
  pub : ∃ vs : List Value, vs.length = 8 ∧ w.heap[g]? = some (.cells vs.toArray 23 (0, 0)) ∧ ∀ (f : Nat) (v : Value) (l : List Int), vs[f]? = some v → Lp[f]? = some l → LAt V w v l
  sub : ∃ vs : List Value, vs.length = 8 ∧ w.heap[h]? = some (.cells vs.toArray 23 (0, 0)) ∧ ∀ (f : Nat) (v : Value) (l : List Int), vs[f]? = some v → Ls[f]? = some l → LAt V w v l
  lp : Lp.length = 8
  ls : Ls.length = 8
  ne : b ≠ g ∧ b ≠ h ∧ g ≠ h
  vs : V b ∧ V g ∧ V h
  lt : ∀ k, V k → k < w.heap.size
section
variable {V S : Nat → Prop} {w w' : World} {b g h : Nat} {ps : List Int} {Lp Ls : List (List Int)}
theorem RTab.but (H : RTab V w b g h ps Lp Ls) (hb : But S w w') (hs : ∀ k, S k → V k ∧ k ≠ b ∧ k ≠ g ∧ k ≠ h) : RTab V w' b g h ps Lp Ls := by
  obtain ⟨⟨vp, h1, h2⟩, ⟨us, h3, h4, h5⟩, ⟨us', h6, h7, h8⟩, lp, ls, ne, vs, lt⟩ := H
  have hV : ∀ k, S k → V k := fun k hk => (hs k hk).1
  exact ⟨⟨vp, hb.blk h1 (fun hk => (hs _ hk).2.1 rfl), h2.but hb hV⟩, ⟨us, h3, hb.blk h4 (fun hk => (hs _ hk).2.2.1 rfl), fun f v l e1 e2 => (h5 f v l e1 e2).but hb hV⟩,
    ⟨us', h6, hb.blk h7 (fun hk => (hs _ hk).2.2.2 rfl), fun f v l e1 e2 => (h8 f v l e1 e2).but hb hV⟩, lp, ls, ne, vs, fun k hk => Nat.lt_of_lt_of_le (lt k hk) hb.size⟩
theorem RTab.below (H : RTab V w b g h ps Lp Ls) (hb : Below w.heap.size w w') : RTab V w' b g h ps Lp Ls := H.but (S := fun _ => False) (But.of_below hb) (fun _ hk => hk.elim)
theorem RTab.drew (H : RTab V w b g h ps Lp Ls) : RTab V w.drew b g h ps Lp Ls := H.below (below_drew (Below.refl _ _))
theorem RTab.drewN (H : RTab V w b g h ps Lp Ls) (n : Nat) : RTab V (w.drewN n) b g h ps Lp Ls := H.below (pw_below_drewN (Below.refl _ _) n)
theorem RTab.setp (H : RTab V w b g h ps Lp Ls) {f : Nat} (hf : f < 8) {v : Value} {l : List Int} (hl : LAt V w v l) : RTab V (w.setCell ⟨g, f, none⟩ v) b g h ps (Lp.set f l) Ls := by
  obtain ⟨⟨vp, h1, h2⟩, ⟨us, h3, h4, h5⟩, ⟨us', h6, h7, h8⟩, lp, ls, ne, vs, lt⟩ := H
  have hb := But.set (S := fun k => k = g) (But.refl _ w) (p := ⟨g, f, none⟩) rfl v
  have hV : ∀ k, k = g → V k := fun k hk => hk ▸ vs.2.1
  refine ⟨⟨vp, hb.blk h1 ne.1, h2.but hb hV⟩, ⟨us.set f v, by rw [List.length_set]; exact h3, blk_put h4 f v (by simp), fun k u m e1 e2 => ?_⟩, ⟨us', h6, hb.blk h7 (Ne.symm ne.2.2), fun k u m e1 e2 => (h8 k u m e1 e2).but hb hV⟩, by rw [List.length_set]; exact lp, ls, ne, vs, fun k hk => Nat.lt_of_lt_of_le (lt k hk) hb.size⟩
  by_cases hk : f = k
  · subst hk
    rw [List.getElem?_set_self (by omega)] at e1 e2
    obtain rfl := Option.some.inj e1
    obtain rfl := Option.some.inj e2
    exact hl.but hb hV
  · rw [List.getElem?_set_ne hk] at e1 e2
    exact (h5 k u m e1 e2).but hb hV
theorem RTab.sets (H : RTab V w b g h ps Lp Ls) {f : Nat} (hf : f < 8) {v : Value} {l : List Int} (hl : LAt V w v l) : RTab V (w.setCell ⟨h, f, none⟩ v) b g h ps Lp (Ls.set f l) := by
  obtain ⟨⟨vp, h1, h2⟩, ⟨us, h3, h4, h5⟩, ⟨us', h6, h7, h8⟩, lp, ls, ne, vs, lt⟩ := H
  have hb := But.set (S := fun k => k = h) (But.refl _ w) (p := ⟨h, f, none⟩) rfl v
  have hV : ∀ k, k = h → V k := fun k hk => hk ▸ vs.2.2
  refine ⟨⟨vp, hb.blk h1 ne.2.1, h2.but hb hV⟩, ⟨us, h3, hb.blk h4 ne.2.2, fun k u m e1 e2 => (h5 k u m e1 e2).but hb hV⟩, ⟨us'.set f v, by rw [List.length_set]; exact h6, blk_put h7 f v (by simp), fun k u m e1 e2 => ?_⟩, lp, by rw [List.length_set]; exact ls, ne, vs, fun k hk => Nat.lt_of_lt_of_le (lt k hk) hb.size⟩
  by_cases hk : f = k
  · subst hk
    rw [List.getElem?_set_self (by omega)] at e1 e2
    obtain rfl := Option.some.inj e1
    obtain rfl := Option.some.inj e2
    exact hl.but hb hV
  · rw [List.getElem?_set_ne hk] at e1 e2
    exact (h8 k u m e1 e2).but hb hV
/-- The cell of the list of classes, and the list. -/
theorem RTab.c0 (H : RTab V w b g h ps Lp Ls) : ∃ A c, w.cell? ⟨b, 0, none⟩ = some (.slice A ps.length c) ∧ ps.length ≤ c ∧ Kd.C (Kd.int .i64) w A ps.length ps := by
  obtain ⟨vp, h1, A, c, rfl, h2, h3, _⟩ := H.blk
  exact ⟨A, c, (blk_cell h1 0).trans rfl, h2, h3⟩
theorem RTab.c1 (H : RTab V w b g h ps Lp Ls) : w.cell? ⟨b, 1, none⟩ = some (.slice (some ⟨g, 0, none⟩) 8 8) := by
  obtain ⟨vp, h1, _⟩ := H.blk
  exact (blk_cell h1 1).trans rfl
theorem RTab.c2 (H : RTab V w b g h ps Lp Ls) : w.cell? ⟨b, 2, none⟩ = some (.slice (some ⟨h, 0, none⟩) 8 8) := by
  obtain ⟨vp, h1, _⟩ := H.blk
  exact (blk_cell h1 2).trans rfl
theorem RTab.cp (H : RTab V w b g h ps Lp Ls) {f : Nat} (hf : f < 8) : ∃ A c, w.cell? ⟨g, f, none⟩ = some (.slice A (Lp.getD f []).length c) ∧ (Lp.getD f []).length ≤ c ∧ Kd.C (Kd.int .i64) w A (Lp.getD f []).length (Lp.getD f []) := by
  obtain ⟨us, h3, h4, h5⟩ := H.pub
  have e1 : us[f]? = some us[f] := List.getElem?_eq_getElem (by omega)
  have e2 : Lp[f]? = some (Lp.getD f []) := by
    rw [List.getD_eq_getElem?_getD, List.getElem?_eq_getElem (by have := H.lp; omega)]
    rfl
  obtain ⟨A, c, h6, h7, h8, _⟩ := h5 f _ _ e1 e2
  exact ⟨A, c, (blk_cell h4 f).trans (by rw [List.getElem?_toArray, e1, h6]), h7, h8⟩
theorem RTab.cs (H : RTab V w b g h ps Lp Ls) {f : Nat} (hf : f < 8) : ∃ A c, w.cell? ⟨h, f, none⟩ = some (.slice A (Ls.getD f []).length c) ∧ (Ls.getD f []).length ≤ c ∧ Kd.C (Kd.int .i64) w A (Ls.getD f []).length (Ls.getD f []) := by
  obtain ⟨us, h3, h4, h5⟩ := H.sub
  have e1 : us[f]? = some us[f] := List.getElem?_eq_getElem (by omega)
  have e2 : Ls[f]? = some (Ls.getD f []) := by
    rw [List.getD_eq_getElem?_getD, List.getElem?_eq_getElem (by have := H.ls; omega)]
    rfl
  obtain ⟨A, c, h6, h7, h8, _⟩ := h5 f _ _ e1 e2
  exact ⟨A, c, (blk_cell h4 f).trans (by rw [List.getElem?_toArray, e1, h6]), h7, h8⟩
theorem RTab.fp (H : RTab V w b g h ps Lp Ls) (f : Nat) : w.frozen? ⟨g, f, none⟩ = false := by
  obtain ⟨us, h3, h4, h5⟩ := H.pub
  exact blk_frozen h4 f
theorem RTab.fs (H : RTab V w b g h ps Lp Ls) (f : Nat) : w.frozen? ⟨h, f, none⟩ = false := by
  obtain ⟨us, h3, h4, h5⟩ := H.sub
  exact blk_frozen h4 f
end

set_option maxHeartbeats 1000000 in
theorem rcheck_calls {V : Nat → Prop} {w : World} {b g h : Nat} {ps : List Int} {Lp Ls : List (List Int)} (H : RTab V w b g h ps Lp Ls) (f c : Int) :
    Calls Try.prog 28 #[.pointer (some ⟨b, 0, none⟩), .int .i64 f, .int .i64 c] w fun e w' => e = .returned (.int .i64 (errT ps.length f c)) ∧ w = w' := by
  obtain ⟨A, c0, h0, h1, h2⟩ := H.c0
  clear H h1 h2
  by_cases hf : 0 ≤ f ∧ f < 8
  · by_cases hc : 0 ≤ c ∧ c < ps.length
    · rw [errT_ok hf hc]
      obtain ⟨h1, h2⟩ := hf
      obtain ⟨h3, h4⟩ := hc
      go_enter Try.func28, Try.ntmps28
      go_wp2
      go_ret
      exact ⟨rfl, rfl⟩
    · rw [errT_c hf hc]
      obtain ⟨h1, h2⟩ := hf
      by_cases h3 : 0 ≤ c
      · have h4 : (ps.length : Int) ≤ c := by omega
        clear hc
        go_enter Try.func28, Try.ntmps28
        go_wp2
        go_ret
        exact ⟨rfl, rfl⟩
      · have h4 : c < 0 := by omega
        clear hc h3
        go_enter Try.func28, Try.ntmps28
        go_wp2
        go_ret
        exact ⟨rfl, rfl⟩
  · rw [errT_f hf]
    by_cases h3 : 0 ≤ f
    · have h4 : 8 ≤ f := by omega
      clear hf
      go_enter Try.func28, Try.ntmps28
      go_wp2
      go_ret
      exact ⟨rfl, rfl⟩
    · have h4 : f < 0 := by omega
      clear hf h3
      go_enter Try.func28, Try.ntmps28
      go_wp2
      go_ret
      exact ⟨rfl, rfl⟩
end Go.Proofs.YtbcegghbbhpkbaaT
