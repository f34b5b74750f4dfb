/- New of package pubsub: the words of the classes, and the table that it hands back. -/
import Derived.Test.YtaaaocckfnlgdaaGreatDoorPubB
import Derived.Test.YtaaaocckfnlgdaaGreatDoorTree
import Derived.Test.YtaaaocckfnlgdaaGreatDoorPBasex
namespace Go.Proofs.YtaaaocckfnlgdaaGreatDoorT
open Go.RowKit Go.Proofs.YtaaaocckfnlgdaaGreatDoorW.PrintWords Go.Proofs.YtaaaocckfnlgdaaGreatDoorW.PrintLast Go.Proofs.YtaaaocckfnlgdaaGreatDoorW.PrintMore Go.Proofs.YtaaaocckfnlgdaaGreatDoorU Go.Proofs.YtaaaocckfnlgdaaGreatDoor.PBase
set_option maxRecDepth 100000
set_option linter.unusedVariables false
set_option linter.unusedSimpArgs false

/-! ### 1. plain -/
def okFrom (ps : List Int) (i : Int) : Prop := ∀ j : Nat, i ≤ (j : Int) → j < ps.length → -1 ≤ ps.getD j 0 ∧ ps.getD j 0 < (j : Int)
theorem ck_loop (ps : List Int) (h16 : ps.length ≤ 16) (d : Nat) : ∀ (k : Nat) (i : Int), 0 ≤ i → i ≤ (ps.length : Int) → (ps.length : Int) - i = d → d < k →
    ∃ r, tree_Check.l0 k ps (ps.length : Int) i = some r ∧ (okFrom ps i → r = 0) ∧ (¬ okFrom ps i → r = 50) := by
  induction d with
  | zero =>
    intro k i h0 h1 hd hk
    obtain ⟨k, rfl⟩ : ∃ m, k = m + 1 := ⟨k - 1, by omega⟩
    exact ⟨0, by simp only [tree_Check.l0]; rw [if_neg (by omega)], fun _ => rfl, fun h => absurd (fun j hj hl => by omega) h⟩
  | succ d ih =>
    intro k i h0 h1 hd hk
    obtain ⟨k, rfl⟩ : ∃ m, k = m + 1 := ⟨k - 1, by omega⟩
    have hlt : i < (ps.length : Int) := by omega
    have hat : ∀ j : Nat, (j : Int) = i → ps.getD j 0 = rd ps i := fun j hj => by
      subst hj
      rfl
    simp only [tree_Check.l0]
    rw [if_pos hlt, if_pos h0, if_pos hlt]
    by_cases h2 : rd ps i < -1
    · exact ⟨50, by rw [if_pos h2], fun h => by have := h i.toNat (by omega) (by omega); rw [hat i.toNat (by omega)] at this; omega, fun _ => rfl⟩
    · rw [if_neg h2]
      by_cases h3 : rd ps i ≥ i
      · exact ⟨50, by rw [if_pos h3], fun h => by have := h i.toNat (by omega) (by omega); rw [hat i.toNat (by omega)] at this; omega, fun _ => rfl⟩
      · rw [if_neg h3, show wrap64 (i + 1) = i + 1 by unfold wrap64; omega]
        obtain ⟨r, hr, ha, hb⟩ := ih k (i + 1) (by omega) (by omega) (by omega) (by omega)
        refine ⟨r, hr, fun h => ha (fun j hj hl => h j (by omega) hl), fun h => hb (fun h' => h (fun j hj hl => ?_))⟩
        by_cases e : (j : Int) = i
        · rw [hat j e]; omega
        · exact h' j (by omega) hl
theorem tck (ps : List Int) (k : Nat) (hk : 18 ≤ k) : tree_Check.f k ps = some (if treeB ps = true then 0 else 50) := by
  have hT : treeB ps = true ↔ Tree ps := by unfold treeB; exact decide_eq_true_iff
  obtain ⟨k, rfl⟩ : ∃ m, k = m + 1 := ⟨k - 1, by omega⟩
  unfold tree_Check.f
  by_cases h1 : (ps.length : Int) < 1
  · rw [if_pos h1, if_neg (fun h => by have := (hT.mp h).1; omega)]
    simp only [tree_Check.j0, if_true]
  · rw [if_neg h1]
    by_cases h2 : (ps.length : Int) > 16
    · rw [if_neg (fun h => by have := (hT.mp h).2.1; omega)]
      simp only [tree_Check.j0, decide_eq_true_eq]
      rw [if_pos h2]
    · simp only [tree_Check.j0, decide_eq_true_eq]
      rw [if_neg h2]
      obtain ⟨r, hr, ha, hb⟩ := ck_loop ps (by omega) ps.length k 0 (by omega) (by omega) (by omega) (by omega)
      rw [hr]
      by_cases ht : treeB ps = true
      · rw [if_pos ht, ha (fun j _ hl => (hT.mp ht).2.2 j hl)]
      · rw [if_neg ht, hb (fun h => ht (hT.mpr ⟨by omega, by omega, fun j hj => h j (by omega) hj⟩))]
/-- A class's word, by those ahead of it: its own bit, and its parent's. -/
def wordOf (ps acc : List Int) (i : Nat) : Int := if 0 ≤ rd ps i then ((2 ^ i ||| (acc.getD (rd ps i).toNat 0).toNat : Nat) : Int) else ((2 ^ i : Nat) : Int)
def aw (ps : List Int) : Nat → List Int
  | 0 => []
  | i + 1 => aw ps i ++ [wordOf ps (aw ps i) i]
theorem aw_len (ps : List Int) : ∀ n, (aw ps n).length = n
  | 0 => rfl
  | n + 1 => by simp [aw, aw_len ps n]
theorem aw_u32 (ps : List Int) : ∀ n, n ≤ 16 → u32s (aw ps n)
  | 0, _ => fun x hx => by simp [aw] at hx
  | n + 1, hn => fun x hx => by
    simp only [aw, List.mem_append, List.mem_singleton] at hx
    rcases hx with hx | rfl
    · exact aw_u32 ps n (by omega) x hx
    · have h2 := two_pow_lt (c := n) (by omega)
      have h3 := u32s_getD (aw_u32 ps n (by omega)) (rd ps n).toNat
      unfold wordOf
      split
      · have := Nat.or_lt_two_pow (x := 2 ^ n) (y := ((aw ps n).getD (rd ps n).toNat 0).toNat) (n := 32) (by omega) (by omega)
        omega
      · omega
theorem aw_bit {ps : List Int} (h : Tree ps) : ∀ n, n ≤ ps.length → ∀ c, c < n → ∀ d : Nat, ((aw ps n).getD c 0).toNat.testBit d = decide ((d : Int) ∈ upL ps c)
  | 0, _, c, hc, _ => by omega
  | n + 1, hn, c, hc, d => by
    by_cases e : c < n
    · rw [aw, List.getD_eq_getElem?_getD, List.getElem?_append_left (by rw [aw_len]; exact e), ← List.getD_eq_getElem?_getD]
      exact aw_bit h n (by omega) c e d
    · obtain rfl : c = n := by omega
      rw [aw, List.getD_eq_getElem?_getD, List.getElem?_append_right (by rw [aw_len]; omega), aw_len, Nat.sub_self]
      have hr := tree_rd h (a := (c : Int)) (by omega) (by omega)
      rw [upL_step h (by omega) (by omega)]
      show (wordOf ps (aw ps c) c).toNat.testBit d = _
      unfold wordOf
      by_cases h0 : 0 ≤ rd ps c
      · rw [if_pos h0, Int.toNat_natCast, Nat.testBit_or, aw_bit h c (by omega) (rd ps c).toNat (by omega) d, Nat.testBit_two_pow, show (((rd ps c).toNat : Nat) : Int) = rd ps c by omega]
        simp only [List.mem_cons]
        by_cases e1 : c = d
        · simp [e1]
        · simp [e1, show ¬ (d : Int) = (c : Int) by omega]
      · rw [if_neg h0, Int.toNat_natCast, Nat.testBit_two_pow, upL_neg (by omega)]
        simp only [List.mem_singleton]
        by_cases e1 : c = d
        · simp [e1]
        · simp [e1, show ¬ (d : Int) = (c : Int) by omega]

/-! ### 2. the walk -/
theorem info_u32 : (Tryz.prog.info? 54).map (fun i => (i.zero, i.size, i.bytes)) = some (some (.int .u32 0), 1, 4) := by kernel_rfl
theorem word_root {ps acc : List Int} {i : Nat} (hi : i < 16) (h : ¬ 0 ≤ rd ps i) : (2 : Int) ^ i % 4294967296 = wordOf ps acc i := by
  unfold wordOf
  rw [if_neg h, bit_shift hi]
theorem word_under {ps acc : List Int} {i p : Nat} (hi : i < 16) (h : rd ps i = p) (ha : u32s acc) : bits .or .u32 ((2 : Int) ^ i % 4294967296) (acc.getD p 0) = wordOf ps acc i := by
  have h2 := two_pow_lt hi
  have h3 := u32s_getD ha p
  unfold wordOf
  rw [if_pos (by omega), bit_shift hi, u32_or _ _ (by omega) (by omega) h3.1 h3.2, h]
  rfl
/-- New: its answer. -/
def NewP (w : World) (l0 : List Int) (e : Ending) (w' : World) : Prop :=
  ∃ b a m, e = .returned (.tuple #[.pointer (some ⟨b, 0, none⟩), .int .i64 0]) ∧ Tab w' b a m (aw l0 l0.length) (List.replicate 8 0) (List.replicate 8 0) ∧ Below w.heap.size w w' ∧ w.heap.size ≤ b ∧ w.heap.size ≤ a
set_option maxHeartbeats 1000000 in
theorem new_calls_ok (A0 : Option Addr) (c0 : Nat) (l0 : List Int) (w : World) (hr0 : Kd.C (Kd.int .i64) w A0 l0.length l0) (hc0 : l0.length ≤ c0) (ht : Tree l0) :
    Calls Tryz.prog 30 #[.slice A0 l0.length c0] w (NewP w l0) := by
  have HR := Aside0.mk hr0
  have CK := Aside0.mk (tree_Check.calls 18 A0 c0 l0 0 w hr0 hc0 ((tck l0 18 (Nat.le_refl _)).trans (by rw [if_pos (treeB_iff.mpr ht)])))
  have HT := Aside0.mk ht
  have h16 : l0.length ≤ 16 := ht.2.1
  clear hr0 hc0 ht
  go_enter Tryz.func30, Tryz.ntmps30
  go_wp2_with (go_at_call 54; refine CK.out.mono ?_; rintro e w1 ⟨rfl, hd⟩; have HD := Aside0.mk hd.below; clear hd)
  have BK := Aside0.mk (show (w1.alloc (.cells #[.slice none 0 0, .int .u32 0, .int .u32 0, .int .u32 0, .int .u32 0, .int .u32 0, .int .u32 0, .int .u32 0, .int .u32 0, .int .u32 0, .int .u32 0, .int .u32 0, .int .u32 0, .int .u32 0, .int .u32 0, .int .u32 0, .int .u32 0] 105 (0, 0))).heap[w1.heap.size]? = some (.cells (tcells (.slice none 0 0) (List.replicate 8 0) (List.replicate 8 0)) 105 (0, 0)) from blk_new w1 _)
  have HB := Aside0.mk (show Below w.heap.size w (w1.alloc (.cells #[.slice none 0 0, .int .u32 0, .int .u32 0, .int .u32 0, .int .u32 0, .int .u32 0, .int .u32 0, .int .u32 0, .int .u32 0, .int .u32 0, .int .u32 0, .int .u32 0, .int .u32 0, .int .u32 0, .int .u32 0, .int .u32 0, .int .u32 0] 105 (0, 0))) from below_alloc HD.out _)
  have HS := Aside0.mk (show (w1.alloc (.cells #[.slice none 0 0, .int .u32 0, .int .u32 0, .int .u32 0, .int .u32 0, .int .u32 0, .int .u32 0, .int .u32 0, .int .u32 0, .int .u32 0, .int .u32 0, .int .u32 0, .int .u32 0, .int .u32 0, .int .u32 0, .int .u32 0, .int .u32 0] 105 (0, 0))).heap.size = w1.heap.size + 1 from by simp)
  have HZ := Aside0.mk HD.out.size
  generalize (w1.alloc (.cells #[.slice none 0 0, .int .u32 0, .int .u32 0, .int .u32 0, .int .u32 0, .int .u32 0, .int .u32 0, .int .u32 0, .int .u32 0, .int .u32 0, .int .u32 0, .int .u32 0, .int .u32 0, .int .u32 0, .int .u32 0, .int .u32 0, .int .u32 0] 105 (0, 0))) = W at BK HB HS ⊢
  generalize w1.heap.size = gb at BK HS HZ ⊢
  clear HD CK
  have HO := Aside0.mk (own_nil W (gb + 1) 54 1)
  go_loopw [6, 7, 8, 18] (fun v6 v7 v8 v18 wr => ∃ (i : Nat) (v : Value), i ≤ l0.length ∧ v18 = .int .i64 i ∧ Aside0 (wr.heap[gb]? = some (.cells (tcells v (List.replicate 8 0) (List.replicate 8 0)) 105 (0, 0))) ∧ Aside0 (wr.ownsRow (gb + 1) 54 1 v i (nums .u32 (aw l0 i))) ∧ Aside0 (Below w.heap.size w wr) ∧ Aside0 (gb + 1 ≤ wr.heap.size)) (fun _ _ _ i _ => l0.length - (intOf i).toNat)
  case atStart => exact ⟨0, .slice none 0 0, by omega, rfl, BK, HO, HB, ⟨by rw [HS.out]; exact Nat.le_refl _⟩⟩
  case round =>
    clear BK HO HB HS
    obtain ⟨i, v, hi, rfl, BK, HO, HB, HG⟩ := hrel
    by_cases hlt : i < l0.length
    · have hx16 : i < 16 := by omega
      have hlt1 : (i : Int) < (l0.length : Int) := by omega
      obtain ⟨ad, rfl, hcell⟩ := Kd.at_int HR.out (i : Int) (by omega) hlt1
      rw [Int.toNat_natCast] at hcell
      replace hcell := pw_cell_below HB.out hcell
      have hrd := tree_rd HT.out (a := (i : Int)) (by omega) hlt1
      have hb0 : wr.cell? ⟨gb, 0, none⟩ = some v := (blk_cell BK.out 0).trans (tcells_above _ _ _)
      have HL := Aside0.mk (aw_len l0 i)
      have HU := Aside0.mk (aw_u32 l0 i (by omega))
      by_cases h0 : 0 ≤ rd l0 i
      · obtain ⟨p, hp⟩ : ∃ p : Nat, rd l0 i = p := ⟨(rd l0 i).toNat, by omega⟩
        have HW := Aside0.mk (word_under hx16 hp HU.out)
        rw [hp] at hcell hrd
        have hpi : p < i := by omega
        obtain ⟨g, cap, rfl, _, _⟩ := HO.out.form (by omega)
        have hpa : wr.cell? ⟨g, p, none⟩ = some (.int .u32 ((aw l0 i).getD p 0)) := by
          have := HO.out.cells (g := g) rfl p (.int .u32 ((aw l0 i).getD p 0)) (by simp [nums, List.getElem?_eq_getElem (show p < (aw l0 i).length by rw [aw_len]; exact hpi), List.getD_eq_getElem?_getD])
          rwa [add_plain] at this
        generalize (aw l0 i).getD p 0 = y at hpa HW
        clear hp h0
        go_wp2_with ((with_reducible refine gate_builtin (b := .append) (xs := #[.tmp 41, .tmp 43]) rfl ?_); at_builtin; refine print_append_num (w0 := wr) (gb + 1) rfl (.tmp 41) (.tmp 43) 102 54 .u32 4 rfl Tryz.underlying102 info_u32 (by decide) (.slice (some ⟨g, 0, none⟩) i cap) (aw l0 i) (bits .or .u32 ((2 : Int) ^ i % 4294967296) y) rfl rfl ?aO (Below.refl _ _) HG.out ?aL ?_; (case aO => rw [HL.out]; exact HO.out); (case aL => have := HL.out; omega); intro v1 w2 hown hb_ hg hat; clear hb_ hat; have BK2 := Aside0.mk (blk_grown BK.out hg (fun e => by have := own_base HO.out gb e.symm; omega)); have c2 := (blk_cell BK2.out 0).trans (tcells_above _ _ _); have z2 := blk_frozen BK2.out 0; rw [HW.out] at hown; have HO2 := Aside0.mk (show w2.ownsRow (gb + 1) 54 1 v1 (i + 1) (nums .u32 (aw l0 (i + 1))) from by have h := hown; rw [List.length_append, HL.out] at h; exact h); obtain ⟨A1, k1, ev⟩ := own_slice HO2.out; subst ev; have HB2 := Aside0.mk (HB.out.grown hg HB.out.size (fun k e => Nat.le_trans (Nat.le_succ_of_le HZ.out) (own_base HO.out k e))); have HG2 := Aside0.mk (Nat.le_trans HG.out hg.size); clear hown hg)
        go_roundw
        case rel => exact ⟨i + 1, .slice A1 (i + 1) k1, by omega, by go_num, ⟨blk_put BK2.out 0 _ (tcells_set0 _ _ _ _)⟩, ⟨ownsRow_setCell_below HO2.out (Nat.lt_succ_self _) _⟩, ⟨HB2.out.setCell (p := ⟨gb, 0, none⟩) HZ.out _⟩, ⟨by have := HG2.out; simpa [World.setCell] using this⟩⟩
        case measure => simp [intOf]; omega
      · have HW := Aside0.mk (word_root (acc := aw l0 i) hx16 h0)
        have hr1 : rd l0 i = -1 := by omega
        rw [hr1] at hcell
        clear h0 hr1 hrd
        obtain ⟨Av, cv, rfl⟩ := own_slice HO.out
        go_wp2_with ((with_reducible refine gate_builtin (b := .append) (xs := #[.tmp 41, .tmp 43]) rfl ?_); at_builtin; refine print_append_num (w0 := wr) (gb + 1) rfl (.tmp 41) (.tmp 43) 102 54 .u32 4 rfl Tryz.underlying102 info_u32 (by decide) (.slice Av i cv) (aw l0 i) ((2 : Int) ^ i % 4294967296) rfl rfl ?aO (Below.refl _ _) HG.out ?aL ?_; (case aO => rw [HL.out]; exact HO.out); (case aL => have := HL.out; omega); intro v1 w2 hown hb_ hg hat; clear hb_ hat; have BK2 := Aside0.mk (blk_grown BK.out hg (fun e => by have := own_base HO.out gb e.symm; omega)); have c2 := (blk_cell BK2.out 0).trans (tcells_above _ _ _); have z2 := blk_frozen BK2.out 0; rw [HW.out] at hown; have HO2 := Aside0.mk (show w2.ownsRow (gb + 1) 54 1 v1 (i + 1) (nums .u32 (aw l0 (i + 1))) from by have h := hown; rw [List.length_append, HL.out] at h; exact h); obtain ⟨A1, k1, ev⟩ := own_slice HO2.out; subst ev; have HB2 := Aside0.mk (HB.out.grown hg HB.out.size (fun k e => Nat.le_trans (Nat.le_succ_of_le HZ.out) (own_base HO.out k e))); have HG2 := Aside0.mk (Nat.le_trans HG.out hg.size); clear hown hg)
        go_roundw
        case rel => exact ⟨i + 1, .slice A1 (i + 1) k1, by omega, by go_num, ⟨blk_put BK2.out 0 _ (tcells_set0 _ _ _ _)⟩, ⟨ownsRow_setCell_below HO2.out (Nat.lt_succ_self _) _⟩, ⟨HB2.out.setCell (p := ⟨gb, 0, none⟩) HZ.out _⟩, ⟨by have := HG2.out; simpa [World.setCell] using this⟩⟩
        case measure => simp [intOf]; omega
    · obtain rfl : i = l0.length := by omega
      obtain ⟨g, cap, rfl, hgb, hgc⟩ := HO.out.form (by have := HT.out.1; omega)
      have HT2 := Aside0.mk (show Tab wr gb g cap (aw l0 l0.length) (List.replicate 8 0) (List.replicate 8 0) from
        { blk := by rw [aw_len]; exact BK.out
          ne := by omega
          reads := fun j x hj => by
            have := HO.out.cells (g := g) rfl j (.int .u32 x) (by simp [nums, hj])
            rwa [add_plain] at this
          cap := by
            rw [aw_len]
            rcases HO.out.2 with ⟨h, _⟩ | ⟨g', cap', cur, h, _, _, h1, _⟩
            · cases h
            · injection h with _ _ h
              omega
          le := by rw [aw_len]; exact h16
          wa := aw_u32 l0 _ h16
          lp := rfl
          wp := fun x hx => by rw [List.eq_of_mem_replicate hx]; decide
          ls := rfl
          ws := fun x hx => by rw [List.eq_of_mem_replicate hx]; decide })
      have HG1 := Aside0.mk hgb
      clear hgb hgc BK HO
      go_wp2
      go_ret2
      exact ⟨gb, g, cap, rfl, HT2.out, HB.out, HZ.out, Nat.le_trans HZ.out (Nat.le_of_succ_le HG1.out)⟩
set_option maxHeartbeats 1000000 in
theorem new_calls_no (A0 : Option Addr) (c0 : Nat) (l0 : List Int) (w : World) (hr0 : Kd.C (Kd.int .i64) w A0 l0.length l0) (hc0 : l0.length ≤ c0) (ht : ¬ Tree l0) :
    Calls Tryz.prog 30 #[.slice A0 l0.length c0] w fun e w' => e = .returned (.tuple #[.pointer none, .int .i64 50]) ∧ Below w.heap.size w w' := by
  have CK := Aside0.mk (tree_Check.calls 18 A0 c0 l0 50 w hr0 hc0 ((tck l0 18 (Nat.le_refl _)).trans (by rw [if_neg (fun h => ht (treeB_iff.mp h))])))
  clear hr0 hc0 ht
  go_enter Tryz.func30, Tryz.ntmps30
  go_wp2_with (go_at_call 54; refine CK.out.mono ?_; rintro e w1 ⟨rfl, hd⟩; have HD := Aside0.mk hd.below; clear hd)
  go_ret2
  exact ⟨rfl, HD.out⟩
end Go.Proofs.YtaaaocckfnlgdaaGreatDoorT
