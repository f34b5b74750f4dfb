-- Written by gp.py (this project's driver over the kit's print) out of the translation and wip/given; Lean checks it.
import Derived.Test.YtbcegghbbhpkbaaPPubsubLeavex0
namespace Go.Proofs.Ytbcegghbbhpkbaa.PPubsubLeave
open Go.RowKit Go.Proofs.YtbcegghbbhpkbaaR Go.Proofs.YtbcegghbbhpkbaaW.PrintWords Go.Proofs.YtbcegghbbhpkbaaW.PrintLast Go.Proofs.YtbcegghbbhpkbaaW.PrintMore
attribute [local go_sem] max2_int min2_int max_two min_two max_three min_three max_four min_four   -- for this text's walks alone
set_option linter.unusedVariables false
set_option linter.unusedSimpArgs false

/-! ### pacelinelaw06_PubsubLeave: function 6 (by hand) -/
open Go.Proofs.YtbcegghbbhpkbaaT Go.Proofs.YtbcegghbbhpkbaaU
def pacelinelaw06_PubsubLeave.f (k : Nat) (l0 : List S38) (a1 : Int) : Option Bool := if 0 ≤ a1 ∧ a1 ≤ 255 then some true else none
set_option maxRecDepth 100000 in
set_option maxHeartbeats 8000000 in
theorem pacelinelaw06_PubsubLeave.calls (k : Nat) (A0 : Option Addr) (c0 : Nat) (l0 : List S38) (a1 : Int) (r : Bool) (w : World) (hr0 : Kd.C k38 w A0 l0.length l0) (hc0 : l0.length ≤ c0) (h : pacelinelaw06_PubsubLeave.f k l0 a1 = some r) :
    Calls Try.prog 6 #[.slice A0 l0.length c0, .int .u8 a1] w fun e w' => e = .returned (.bool r) ∧ Below w.heap.size w w' := by
  unfold pacelinelaw06_PubsubLeave.f at h
  split at h
  · rename_i hP
    obtain rfl := Option.some.inj h
    clear h
    obtain ⟨p1, p2⟩ := hP
    have HR := Aside0.mk hr0
    clear hr0 hc0
    by_cases hl : l0.length ≤ 100
    · have hC0 := Aside0.mk (show Kd.C (Kd.int .i64) (w.alloc (.cells #[.int .i64 (-1), .int .i64 0, .int .i64 0, .int .i64 1] 3 (0, 0))) (some ⟨w.heap.size, 0, none⟩) 4 [-1, 0, 0, 1] from lit_reads w [-1, 0, 0, 1] (by decide))
      have CN := Aside0.mk (fun W (hW : Below ((w.alloc (.cells #[.int .i64 (-1), .int .i64 0, .int .i64 0, .int .i64 1] 3 (0, 0)))).heap.size (w.alloc (.cells #[.int .i64 (-1), .int .i64 0, .int .i64 0, .int .i64 1] 3 (0, 0))) W) => show Calls Try.prog 8 #[.slice (some ⟨w.heap.size, 0, none⟩) 4 4] W (NewP W [-1, 0, 0, 1]) from
        new_calls_ok (some ⟨w.heap.size, 0, none⟩) 4 [-1, 0, 0, 1] W (Kd.C_below hC0.out hW) (by decide) (by decide))
      have CM := Aside0.mk (fun U W (hW : Below ((w.alloc (.cells #[.int .i64 (-1), .int .i64 0, .int .i64 0, .int .i64 1] 3 (0, 0)))).heap.size (w.alloc (.cells #[.int .i64 (-1), .int .i64 0, .int .i64 0, .int .i64 1] 3 (0, 0))) W) hU => show Calls Try.prog 9 #[.slice (some ⟨w.heap.size, 0, none⟩) 4 4] W (RNewP U W [-1, 0, 0, 1]) from
        rnew_calls_ok U (some ⟨w.heap.size, 0, none⟩) 4 [-1, 0, 0, 1] W hU (Kd.C_below hC0.out hW) (by decide) (by decide))
      have HB0 := Aside0.mk (below_alloc (Below.refl w.heap.size w) (.cells #[.int .i64 (-1), .int .i64 0, .int .i64 0, .int .i64 1] 3 (0, 0)))
      have HLL := Aside0.mk hl
      have hl1 : decide ((100 : Int) < (l0.length : Int)) = false := decide_eq_false (by omega)
      clear hC0 hl
      go_enter Try.func6, Try.ntmps6
      go_wp2_with (first
        | (go_at_call 8; (with_reducible refine (CN.out _ (Below.refl _ _)).mono ?_); rintro e w1 ⟨b, a, m, rfl, ht, hb, hb1, hb2⟩; have HT := Aside0.mk ht; have HD1 := Aside0.mk hb; have HG := Aside0.mk (Nat.le_trans HB0.out.size hb1); have HU := Aside0.mk (show ∀ k, (k = b ∨ k = a) → k < w1.heap.size from fun k hk => hk.elim (fun e => e ▸ blk_lt HT.out.blk) (fun e => e ▸ World.block_lt_of_cell? _ _ (HT.out.ca 0 (by decide)))); clear ht hb hb1 hb2)
        | (go_at_call 9; (with_reducible refine (CM.out (fun k => k = b ∨ k = a) _ HD1.out HU.out).mono ?_); rintro e w2 ⟨b2, g, h, rfl, ht, hb, hb1, hb2, hb3⟩; have HT1 := Aside0.mk (HT.out.below hb); have HT2 := Aside0.mk ht; have HB := Aside0.mk (below_step HB0.out (below_step HD1.out hb)); have HG2 := Aside0.mk (And.intro (Nat.le_trans HB0.out.size (Nat.le_trans HD1.out.size hb2)) (Nat.le_trans HB0.out.size (Nat.le_trans HD1.out.size hb3))); have HN := Aside0.mk (show (b ≠ b2 ∧ b ≠ g ∧ b ≠ h) ∧ (a ≠ b2 ∧ a ≠ g ∧ a ≠ h) by have h1 := HU.out b (Or.inl rfl); have h2 := HU.out a (Or.inr rfl); omega); clear ht hb hb1 hb2 hb3))
      have HA := Aside0.mk (aw_len [-1, 0, 0, 1] 4)
      have HSh := Aside0.mk (And.intro (short_new 0) (short_new 0))
      replace HT1 := Aside0.mk (show Tab w2 b a m (aw [-1, 0, 0, 1] 4) (List.replicate 8 0) (List.replicate 8 0) from HT1.out)
      have HWB := Aside0.mk (show ∀ (ws : List Int) (Lw : List (List Int)) (f c : Int), Rel 4 ws Lw → hearsB (aw [-1, 0, 0, 1] 4) ws f c = rhearB [-1, 0, 0, 1] Lw f c from fun ws Lw f c hr => hears_same (ps := [-1, 0, 0, 1]) (by decide) f c (fun h1 h2 => hr f.toNat (by omega)))
      have HWR := Aside0.mk (show ∀ (ws vs : List Int) (Lw Lv : List (List Int)) (f c : Int), Rel 4 ws Lw → Rel 4 vs Lv → routeL (aw [-1, 0, 0, 1] 4) vs f c = rrouteL [-1, 0, 0, 1] Lv f c ∧ routeE 4 ws f c = rrouteE 4 Lw f c from fun ws vs Lw Lv f c hp hs => route_same (ps := [-1, 0, 0, 1]) (by decide) hp hs f c)
      generalize aw [-1, 0, 0, 1] 4 = ab at HT1 HA HWB HWR
      obtain ⟨F, hF⟩ : ∃ F : Nat, a1 % 8 = F := ⟨(a1 % 8).toNat, by omega⟩
      have hF8 : F < 8 := by omega
      rw [hF]
      clear hF
      have HQ := Aside0.mk (And.intro (relbut_new 4 F hF8) (relbut_new 4 F hF8))
      clear CN CM HB0 hl1 HT HD1 HU
      go_loopw [11] (fun v11 wr => ∃ (i : Nat) (ps ss : List Int) (Lp Ls : List (List Int)), i ≤ l0.length ∧ v11 = .int .i64 i ∧ Aside0 (Tab wr b a m ab ps ss) ∧ Aside0 (RTab (fun k => k = b2 ∨ k = g ∨ k = h ∨ (k = b ∨ k = a)) wr b2 g h [-1, 0, 0, 1] Lp Ls) ∧ Aside0 (RelBut 4 F ps Lp ∧ RelBut 4 F ss Ls) ∧ Aside0 (Short Lp i ∧ Short Ls i) ∧ Aside0 (Below w.heap.size w wr)) (fun i _ => l0.length - (intOf i).toNat)
      case atStart => exact ⟨0, _, _, _, _, by omega, rfl, HT1, HT2, HQ, HSh, HB⟩
      case round =>
        clear HT1 HT2 HB HQ HSh
        obtain ⟨i, ps, ss, Lp, Ls, hi, rfl, HT1, HT2, HQ, HSh, HB⟩ := hrel
        by_cases hlt : i < l0.length
        · have hlt1 : (i : Int) < (l0.length : Int) := by omega
          have h100 : (i : Int) < 100 := by have := HLL.out; omega
          obtain ⟨ad, rfl, q0, q1, q2, q3⟩ := at_T38 HR.out (i : Int) (by omega) hlt1
          rw [Int.toNat_natCast] at q0 q1 q2 q3
          generalize (rd_T38 l0 i) = x at q0 q1 q2 q3
          have CD := Aside0.mk (does_calls HT1.out x.f0 x.f1 x.f2 x.f3)
          rw [HA.out] at CD
          by_cases hx : x.f1 = (F : Int)
          · have HQ4 := Aside0.mk (show RelBut 4 F (doP 4 ps x.f0 x.f1 x.f2 x.f3) Lp ∧ RelBut 4 F (doS 4 ss x.f0 x.f1 x.f2 x.f3) Ls by rw [hx]; exact ⟨relbut_self (agree_doP1 HT1.out.lp (agree_refl F ps) _ _ _) HQ.out.1, relbut_self (agree_doS1 HT1.out.ls (agree_refl F ss) _ _ _) HQ.out.2⟩)
            have HS4 := Aside0.mk (And.intro (short_more HSh.out.1 (show i ≤ i + 1 by omega)) (short_more HSh.out.2 (show i ≤ i + 1 by omega)))
            have e1 : (x.f1 == (F : Int)) = true := beq_iff_eq.mpr hx
            clear hx
            have Q0 := Aside0.mk q0
            have Q1 := Aside0.mk q1
            have Q2 := Aside0.mk q2
            have Q3 := Aside0.mk q3
            replace q0 := pw_cell_below HB.out q0
            replace q1 := pw_cell_below HB.out q1
            replace q2 := pw_cell_below HB.out q2
            replace q3 := pw_cell_below HB.out q3
            go_wp2_with (go_at_call 15; (with_reducible refine CD.out.mono ?_); rintro e w3 ⟨rfl, ht, hb⟩; have HT3 := Aside0.mk ht; have HR3 := Aside0.mk (HT2.out.but hb (fun k hk => ⟨Or.inr (Or.inr (Or.inr (Or.inl hk))), by have := HN.out; omega, by have := HN.out; omega, by have := HN.out; omega⟩)); have HB3 := Aside0.mk (But.below HB.out hb HB.out.size (fun k hk => hk ▸ HG.out)); clear ht hb; replace q0 := pw_cell_below HB3.out Q0.out; replace q1 := pw_cell_below HB3.out Q1.out; replace q2 := pw_cell_below HB3.out Q2.out; replace q3 := pw_cell_below HB3.out Q3.out)
            go_roundw
            case rel => exact ⟨i + 1, _, _, _, _, by omega, by go_num, HT3, HR3, HQ4, HS4, HB3⟩
            case measure => simp [intOf]; omega
          · have e1 : (x.f1 == (F : Int)) = false := beq_eq_false_iff_ne.mpr hx
            by_cases h0 : x.f0 = 0
            · rw [h0] at q0 CD
              clear h0
              have Q0 := Aside0.mk q0
              have Q1 := Aside0.mk q1
              have Q2 := Aside0.mk q2
              have Q3 := Aside0.mk q3
              replace q0 := pw_cell_below HB.out q0
              replace q1 := pw_cell_below HB.out q1
              replace q2 := pw_cell_below HB.out q2
              replace q3 := pw_cell_below HB.out q3
              have HQ4 := Aside0.mk (show (RelBut 4 F (doP 4 ps 0 x.f1 x.f2 x.f3) (doLp 4 Lp 0 x.f1 x.f2 x.f3) ∧ RelBut 4 F (doS 4 ss 0 x.f1 x.f2 x.f3) (doLs 4 Ls 0 x.f1 x.f2 x.f3)) from ⟨relbut_doP (by decide) HT1.out.lp HT2.out.lp HQ.out.1 _ _ _ _ hx, relbut_doS (by decide) HT1.out.ls HT2.out.ls HQ.out.2 _ _ _ _ hx⟩)
              have HS4 := Aside0.mk (And.intro (short_doLp (n := 4) HSh.out.1 0 x.f1 x.f2 x.f3) (short_doLs (n := 4) HSh.out.2 0 x.f1 x.f2 x.f3))
              have CRf := Aside0.mk (fun W (hW : RTab (fun k => k = b2 ∨ k = g ∨ k = h ∨ (k = b ∨ k = a)) W b2 g h [-1, 0, 0, 1] Lp Ls) => rpublish_calls hW (short_more HSh.out.1 (show i ≤ 1000 by omega)) x.f1 x.f2 x.f3)
              clear hx
              go_wp2_with (go_at_call 15; (with_reducible refine CD.out.mono ?_); rintro e w3 ⟨rfl, ht, hb⟩; have HT3 := Aside0.mk ht; have HR3 := Aside0.mk (HT2.out.but hb (fun k hk => ⟨Or.inr (Or.inr (Or.inr (Or.inl hk))), by have := HN.out; omega, by have := HN.out; omega, by have := HN.out; omega⟩)); have HB3 := Aside0.mk (But.below HB.out hb HB.out.size (fun k hk => hk ▸ HG.out)); clear ht hb; replace q0 := pw_cell_below HB3.out Q0.out; replace q1 := pw_cell_below HB3.out Q1.out; replace q2 := pw_cell_below HB3.out Q2.out; replace q3 := pw_cell_below HB3.out Q3.out)
              go_still_tail 16, (by kernel_rfl)
              have HRW := Aside0.mk HR3.out.drew
              have HTW := Aside0.mk HT3.out.drew
              have HBW := Aside0.mk (below_drew HB3.out)
              change wpList _ _ _ _ _ w3.drew
              generalize w3.drew = w3d at HRW HTW HBW ⊢
              go_wp2_with (go_at_call 18; (with_reducible refine (CRf.out _ HRW.out).mono ?_); rintro e w4 ⟨rfl, ht, hb⟩; have HR4 := Aside0.mk ht; have HT4 := Aside0.mk (HTW.out.but hb (by have := HN.out; omega) (by have := HN.out; omega)); have HB4 := Aside0.mk (But.below HBW.out hb HBW.out.size (fun k hk => hk.elim (fun e => e ▸ HG2.out.1) (fun e => e ▸ HG2.out.2))); clear ht hb)
              go_roundw
              case rel => exact ⟨i + 1, _, _, _, _, by omega, by go_num, HT4, HR4, HQ4, HS4, HB4⟩
              case measure => simp [intOf]; omega
            · by_cases h1 : x.f0 = 1
              · rw [h1] at q0 CD
                clear h0 h1
                have Q0 := Aside0.mk q0
                have Q1 := Aside0.mk q1
                have Q2 := Aside0.mk q2
                have Q3 := Aside0.mk q3
                replace q0 := pw_cell_below HB.out q0
                replace q1 := pw_cell_below HB.out q1
                replace q2 := pw_cell_below HB.out q2
                replace q3 := pw_cell_below HB.out q3
                have HQ4 := Aside0.mk (show (RelBut 4 F (doP 4 ps 1 x.f1 x.f2 x.f3) (doLp 4 Lp 1 x.f1 x.f2 x.f3) ∧ RelBut 4 F (doS 4 ss 1 x.f1 x.f2 x.f3) (doLs 4 Ls 1 x.f1 x.f2 x.f3)) from ⟨relbut_doP (by decide) HT1.out.lp HT2.out.lp HQ.out.1 _ _ _ _ hx, relbut_doS (by decide) HT1.out.ls HT2.out.ls HQ.out.2 _ _ _ _ hx⟩)
                have HS4 := Aside0.mk (And.intro (short_doLp (n := 4) HSh.out.1 1 x.f1 x.f2 x.f3) (short_doLs (n := 4) HSh.out.2 1 x.f1 x.f2 x.f3))
                have CRf := Aside0.mk (fun W (hW : RTab (fun k => k = b2 ∨ k = g ∨ k = h ∨ (k = b ∨ k = a)) W b2 g h [-1, 0, 0, 1] Lp Ls) => rsubscribe_calls hW (short_more HSh.out.2 (show i ≤ 1000 by omega)) x.f1 x.f2 x.f3)
                clear hx
                go_wp2_with (go_at_call 15; (with_reducible refine CD.out.mono ?_); rintro e w3 ⟨rfl, ht, hb⟩; have HT3 := Aside0.mk ht; have HR3 := Aside0.mk (HT2.out.but hb (fun k hk => ⟨Or.inr (Or.inr (Or.inr (Or.inl hk))), by have := HN.out; omega, by have := HN.out; omega, by have := HN.out; omega⟩)); have HB3 := Aside0.mk (But.below HB.out hb HB.out.size (fun k hk => hk ▸ HG.out)); clear ht hb; replace q0 := pw_cell_below HB3.out Q0.out; replace q1 := pw_cell_below HB3.out Q1.out; replace q2 := pw_cell_below HB3.out Q2.out; replace q3 := pw_cell_below HB3.out Q3.out)
                go_still_tail 16, (by kernel_rfl)
                have HRW := Aside0.mk HR3.out.drew
                have HTW := Aside0.mk HT3.out.drew
                have HBW := Aside0.mk (below_drew HB3.out)
                change wpList _ _ _ _ _ w3.drew
                generalize w3.drew = w3d at HRW HTW HBW ⊢
                go_wp2_with (go_at_call 11; (with_reducible refine (CRf.out _ HRW.out).mono ?_); rintro e w4 ⟨rfl, ht, hb⟩; have HR4 := Aside0.mk ht; have HT4 := Aside0.mk (HTW.out.but hb (by have := HN.out; omega) (by have := HN.out; omega)); have HB4 := Aside0.mk (But.below HBW.out hb HBW.out.size (fun k hk => hk.elim (fun e => e ▸ HG2.out.1) (fun e => e ▸ HG2.out.2))); clear ht hb)
                go_roundw
                case rel => exact ⟨i + 1, _, _, _, _, by omega, by go_num, HT4, HR4, HQ4, HS4, HB4⟩
                case measure => simp [intOf]; omega
              · by_cases h2 : x.f0 = 2
                · rw [h2] at q0 CD
                  clear h0 h1 h2
                  have Q0 := Aside0.mk q0
                  have Q1 := Aside0.mk q1
                  have Q2 := Aside0.mk q2
                  have Q3 := Aside0.mk q3
                  replace q0 := pw_cell_below HB.out q0
                  replace q1 := pw_cell_below HB.out q1
                  replace q2 := pw_cell_below HB.out q2
                  replace q3 := pw_cell_below HB.out q3
                  have HQ4 := Aside0.mk (show (RelBut 4 F (doP 4 ps 2 x.f1 x.f2 x.f3) (doLp 4 Lp 2 x.f1 x.f2 x.f3) ∧ RelBut 4 F (doS 4 ss 2 x.f1 x.f2 x.f3) (doLs 4 Ls 2 x.f1 x.f2 x.f3)) from ⟨relbut_doP (by decide) HT1.out.lp HT2.out.lp HQ.out.1 _ _ _ _ hx, relbut_doS (by decide) HT1.out.ls HT2.out.ls HQ.out.2 _ _ _ _ hx⟩)
                  have HS4 := Aside0.mk (And.intro (short_doLp (n := 4) HSh.out.1 2 x.f1 x.f2 x.f3) (short_doLs (n := 4) HSh.out.2 2 x.f1 x.f2 x.f3))
                  have CRf := Aside0.mk (fun W (hW : RTab (fun k => k = b2 ∨ k = g ∨ k = h ∨ (k = b ∨ k = a)) W b2 g h [-1, 0, 0, 1] Lp Ls) => rleave_calls hW x.f1)
                  clear hx
                  go_wp2_with (first | (go_at_call 15; (with_reducible refine CD.out.mono ?_); rintro e w3 ⟨rfl, ht, hb⟩; have HT3 := Aside0.mk ht; have HR3 := Aside0.mk (HT2.out.but hb (fun k hk => ⟨Or.inr (Or.inr (Or.inr (Or.inl hk))), by have := HN.out; omega, by have := HN.out; omega, by have := HN.out; omega⟩)); have HB3 := Aside0.mk (But.below HB.out hb HB.out.size (fun k hk => hk ▸ HG.out)); clear ht hb; replace q0 := pw_cell_below HB3.out Q0.out; replace q1 := pw_cell_below HB3.out Q1.out; replace q2 := pw_cell_below HB3.out Q2.out; replace q3 := pw_cell_below HB3.out Q3.out) | (go_at_call 19; (with_reducible refine (CRf.out _ HR3.out).mono ?_); rintro e w4 ⟨rfl, ht, hb⟩; have HR4 := Aside0.mk ht; have HT4 := Aside0.mk (HT3.out.but hb (by have := HN.out; omega) (by have := HN.out; omega)); have HB4 := Aside0.mk (But.below HB3.out hb HB3.out.size (fun k hk => hk.elim (fun e => e ▸ HG2.out.1) (fun e => e ▸ HG2.out.2))); clear ht hb))
                  go_roundw
                  case rel => exact ⟨i + 1, _, _, _, _, by omega, by go_num, HT4, HR4, HQ4, HS4, HB4⟩
                  case measure => simp [intOf]; omega
                · have Q0 := Aside0.mk q0
                  have Q1 := Aside0.mk q1
                  have Q2 := Aside0.mk q2
                  have Q3 := Aside0.mk q3
                  replace q0 := pw_cell_below HB.out q0
                  replace q1 := pw_cell_below HB.out q1
                  replace q2 := pw_cell_below HB.out q2
                  replace q3 := pw_cell_below HB.out q3
                  have HQ4 := Aside0.mk (show (RelBut 4 F (doP 4 ps x.f0 x.f1 x.f2 x.f3) (doLp 4 Lp x.f0 x.f1 x.f2 x.f3) ∧ RelBut 4 F (doS 4 ss x.f0 x.f1 x.f2 x.f3) (doLs 4 Ls x.f0 x.f1 x.f2 x.f3)) from ⟨relbut_doP (by decide) HT1.out.lp HT2.out.lp HQ.out.1 _ _ _ _ hx, relbut_doS (by decide) HT1.out.ls HT2.out.ls HQ.out.2 _ _ _ _ hx⟩)
                  have HS4 := Aside0.mk (And.intro (short_doLp (n := 4) HSh.out.1 x.f0 x.f1 x.f2 x.f3) (short_doLs (n := 4) HSh.out.2 x.f0 x.f1 x.f2 x.f3))
                  clear hx
                  have e0 : (x.f0 == 0) = false := beq_eq_false_iff_ne.mpr h0
                  have e2 : (x.f0 == 1) = false := beq_eq_false_iff_ne.mpr h1
                  have e3 : (x.f0 == 2) = false := beq_eq_false_iff_ne.mpr h2
                  have HX4 := Aside0.mk (show doLp 4 Lp x.f0 x.f1 x.f2 x.f3 = Lp ∧ doLs 4 Ls x.f0 x.f1 x.f2 x.f3 = Ls from ⟨by unfold doLp; rw [if_neg h0, if_neg h2], by unfold doLs; rw [if_neg h1, if_neg h2]⟩)
                  rw [HX4.out.1, HX4.out.2] at HQ4 HS4
                  clear h0 h1 h2 HX4
                  go_wp2_with (go_at_call 15; (with_reducible refine CD.out.mono ?_); rintro e w3 ⟨rfl, ht, hb⟩; have HT3 := Aside0.mk ht; have HR3 := Aside0.mk (HT2.out.but hb (fun k hk => ⟨Or.inr (Or.inr (Or.inr (Or.inl hk))), by have := HN.out; omega, by have := HN.out; omega, by have := HN.out; omega⟩)); have HB3 := Aside0.mk (But.below HB.out hb HB.out.size (fun k hk => hk ▸ HG.out)); clear ht hb; replace q0 := pw_cell_below HB3.out Q0.out; replace q1 := pw_cell_below HB3.out Q1.out; replace q2 := pw_cell_below HB3.out Q2.out; replace q3 := pw_cell_below HB3.out Q3.out)
                  go_roundw
                  case rel => exact ⟨i + 1, _, _, _, _, by omega, by go_num, HT3, HR3, HQ4, HS4, HB3⟩
                  case measure => simp [intOf]; omega
        · obtain rfl : i = l0.length := by omega
          have HK := Aside0.mk (And.intro (short_more HSh.out.1 (show l0.length ≤ 1000 by have := HLL.out; omega)) (short_more HSh.out.2 (show l0.length ≤ 1000 by have := HLL.out; omega)))
          have HE := Aside0.mk (fun gi ci => HWR.out _ _ _ _ gi ci (rel_left hF8 HT1.out.lp HQ.out.1) (rel_left hF8 HT1.out.ls HQ.out.2))
          have HH := Aside0.mk (fun gi ci => HWB.out _ _ gi ci (rel_left hF8 HT1.out.ls HQ.out.2))
          have CL1 := Aside0.mk (leave_calls HT1.out (F : Int))
          have e1 : errF (F : Int) = 0 := if_pos (by omega)
          rw [e1] at CL1
          have HE8 : Aside0 (errF 8 = 1 ∧ (∀ l : List Int, leaveW l 8 = l)) := ⟨if_neg (by omega), fun l => if_neg (by omega)⟩
          clear HR hlt hi HSh HQ HWR HWB e1
          go_wp2_with (first
            | (go_at_call 14; (with_reducible refine CL1.out.mono ?_); rintro e w5 ⟨rfl, ht, hb⟩; have HT5 := Aside0.mk ht; have HR5 := Aside0.mk (HT2.out.but hb (fun k hk => ⟨Or.inr (Or.inr (Or.inr (Or.inl hk))), by have := HN.out; omega, by have := HN.out; omega, by have := HN.out; omega⟩)); have HB5 := Aside0.mk (But.below HB.out hb HB.out.size (fun k hk => hk ▸ HG.out)); clear ht hb)
            | (go_at_call 14; (with_reducible refine (leave_calls HT5.out 8).mono ?_); rw [HE8.out.1, HE8.out.2, HE8.out.2]; rintro e w6 ⟨rfl, ht, hb⟩; have HT6 := Aside0.mk ht; have HR6 := Aside0.mk (HR5.out.but hb (fun k hk => ⟨Or.inr (Or.inr (Or.inr (Or.inl hk))), by have := HN.out; omega, by have := HN.out; omega, by have := HN.out; omega⟩)); have HB6 := Aside0.mk (But.below HB5.out hb HB5.out.size (fun k hk => hk ▸ HG.out)); clear ht hb))
          go_loopw [12, 13, 14, 15, 16, 17] (fun v12 v13 v14 v15 v16 v17 wr2 => ∃ gi : Nat, gi ≤ 8 ∧ v12 = .int .i64 gi ∧ Aside0 (Tab wr2 b a m ab (leaveW ps F) (leaveW ss F)) ∧ Aside0 (RTab (fun k => k = b2 ∨ k = g ∨ k = h ∨ (k = b ∨ k = a)) wr2 b2 g h [-1, 0, 0, 1] Lp Ls) ∧ Aside0 (Below w.heap.size w wr2)) (fun g _ _ _ _ _ _ => 8 - (intOf g).toNat)
          case atStart => exact ⟨0, by omega, rfl, HT6, HR6, HB6⟩
          case round =>
            clear HT1 HT2 HB HT5 HR5 HB5 HT6 HR6 HB6 CL1
            obtain ⟨gi, hg, rfl, HT1, HT2, HB⟩ := hrel
            by_cases hlt : gi < 8
            · have hd8 : decide ((gi : Int) < 8) = true := decide_eq_true (by omega)
              have hlt0 := Aside0.mk hlt
              clear hlt
              go_wp2
              clear hd8
              go_loopw [13, 14, 15, 16, 17] (fun v13 v14 v15 v16 v17 wr3 => ∃ ci : Nat, ci ≤ 4 ∧ v13 = .int .i64 ci ∧ Aside0 (Tab wr3 b a m ab (leaveW ps F) (leaveW ss F)) ∧ Aside0 (RTab (fun k => k = b2 ∨ k = g ∨ k = h ∨ (k = b ∨ k = a)) wr3 b2 g h [-1, 0, 0, 1] Lp Ls) ∧ Aside0 (Below w.heap.size w wr3)) (fun c _ _ _ _ _ => 4 - (intOf c).toNat)
              case atStart => exact ⟨0, by omega, rfl, HT1, HT2, HB⟩
              case round =>
                clear HT1 HT2 HB
                obtain ⟨ci, hc, rfl, HT1, HT2, HB⟩ := hrel
                by_cases hltc : ci < 4
                · have CR1 := Aside0.mk (route_calls HT1.out gi ci)
                  rw [HA.out, (HE.out gi ci).1, (HE.out gi ci).2] at CR1
                  have CR2 := Aside0.mk (fun W (hW : Below wr.heap.size wr W) => show Calls Try.prog 21 #[.pointer (some ⟨b2, 0, none⟩), .int .i64 (gi : Int), .int .i64 (ci : Int)] W (RouteC W (rrouteE 4 Lp gi ci) (if rrouteE 4 Lp gi ci = 0 then rrouteL [-1, 0, 0, 1] Ls gi ci else [])) from rroute_calls (HT2.out.below hW) HK.out.1 HK.out.2 gi ci)
                  have CH1 := Aside0.mk (fun W (hW : Below wr.heap.size wr W) => hears_calls (HT1.out.below hW) gi ci)
                  rw [HH.out gi ci] at CH1
                  have CH2 := Aside0.mk (fun W (hW : Below wr.heap.size wr W) => rhears_calls (HT2.out.below hW) HK.out.2 gi ci)
                  have hLL : (if rrouteE 4 Lp gi ci = 0 then rrouteL [-1, 0, 0, 1] Ls gi ci else []).length ≤ 8 := by
                    split
                    · exact rrouteP_len _ _ _ _ _
                    · simp
                  generalize (if rrouteE 4 Lp gi ci = 0 then rrouteL [-1, 0, 0, 1] Ls gi ci else []) = X at CR1 CR2 hLL
                  generalize rrouteE 4 Lp gi ci = e at CR1 CR2
                  generalize rhearB [-1, 0, 0, 1] Ls gi ci = q at CH1 CH2
                  have CS := Aside0.mk (fun A B c d W h1 h2 h3 h4 => Go.Proofs.Ytbcegghbbhpkbaa.PBase.pacelinelaw06_same.calls (X.length + 1) A c X B d X true W h1 h2 h3 h4 (same_self X (by omega) _ (by omega)))
                  clear hLL
                  go_wp2_with (first
                    | (go_at_call 20; (with_reducible refine CR1.out.mono ?_); rintro e w5 ⟨v, rfl, ho, hb⟩; obtain ⟨A5, c5, rfl⟩ := Kd.R_slice ho; have O5 := Aside0.mk (Kd.R_reads' ho); have B5 := Aside0.mk hb; clear ho hb)
                    | (go_at_call 21; (with_reducible refine (CR2.out _ B5.out).mono ?_); rintro e w6 ⟨v, rfl, ho, hb⟩; obtain ⟨A6, c6, rfl⟩ := Kd.R_slice ho; have O6 := Aside0.mk (Kd.R_reads' ho); have D6 := Aside0.mk hb; have B6 := Aside0.mk (below_step B5.out hb); clear ho hb)
                    | (go_at_call 22; (with_reducible refine (CS.out _ _ _ _ _ (Kd.C_below O5.out.2.2 D6.out) O5.out.2.1 O6.out.2.2 O6.out.2.1).mono ?_); rintro e w7 ⟨rfl, hb7⟩; have B7 := Aside0.mk (below_step B6.out hb7.below); clear hb7)
                    | (go_at_call 12; (with_reducible refine (CH1.out _ B7.out).mono ?_); rintro e w10 ⟨rfl, nd, rfl⟩; have B10 := Aside0.mk (pw_below_drewN B7.out nd))
                    | (go_at_call 13; (with_reducible refine (CH2.out _ B10.out).mono ?_); rintro e w11 ⟨rfl, hb11⟩; have B11 := Aside0.mk (below_step B10.out hb11); clear hb11))
                  go_roundw
                  case rel => exact ⟨ci + 1, by omega, by go_num, ⟨HT1.out.below B11.out⟩, ⟨HT2.out.below B11.out⟩, ⟨below_step HB.out B11.out⟩⟩
                  case measure => simp [intOf]; omega
                · obtain rfl : ci = 4 := by omega
                  go_wp2
                  go_roundw
                  case rel => exact ⟨gi + 1, by have := hlt0.out; omega, by go_num, HT1, HT2, HB⟩
                  case measure => have := hlt0.out; simp [intOf]; omega
            · obtain rfl : gi = 8 := by omega
              go_wp2
              go_ret
              exact ⟨rfl, HB.out⟩
    · have hl1 : (100 : Int) < (l0.length : Int) := by omega
      clear hl
      go_enter Try.func6, Try.ntmps6
      go_wp2
      go_ret
      exact ⟨rfl, Below.refl _ _⟩
  · cases h


/-- THE ONE PURE STATEMENT of pacelinelaw06_PubsubLeave. -/
def pacelinelaw06_PubsubLeave.Pure : Prop := ∀ (l0 : List (S38)) (a1 : Int), OkAll (ok38) l0 → (Lit.int .u8 a1).wf = true → ∃ k, pacelinelaw06_PubsubLeave.f k l0 a1 = some true
end Go.Proofs.Ytbcegghbbhpkbaa.PPubsubLeave
