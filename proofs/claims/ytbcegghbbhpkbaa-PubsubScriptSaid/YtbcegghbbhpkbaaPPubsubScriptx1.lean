-- Written by gp.py (this project's driver over the kit's print) out of the translation and wip/given; Lean checks it.
import Derived.Test.YtbcegghbbhpkbaaPPubsubScriptx0
namespace Go.Proofs.Ytbcegghbbhpkbaa.PPubsubScript
open Go.RowKit Go.Proofs.YtbcegghbbhpkbaaR Go.Proofs.YtbcegghbbhpkbaaW.PrintWords Go.Proofs.YtbcegghbbhpkbaaW.PrintLast Go.Proofs.YtbcegghbbhpkbaaW.PrintMore
attribute [local go_sem] max2_int min2_int max_two min_two max_three min_three max_four min_four   -- for this text's walks alone
set_option linter.unusedVariables false
set_option linter.unusedSimpArgs false

/-! ### pacelinelaw06_PubsubScript: function 5 (by hand) -/
open Go.Proofs.YtbcegghbbhpkbaaT Go.Proofs.YtbcegghbbhpkbaaU
def pacelinelaw06_PubsubScript.f (k : Nat) (l0 : List Int) (l1 : List S38) : Option Bool := some true
set_option maxRecDepth 100000 in
set_option maxHeartbeats 8000000 in
theorem pacelinelaw06_PubsubScript.calls (k : Nat) (A0 : Option Addr) (c0 : Nat) (l0 : List Int) (A1 : Option Addr) (c1 : Nat) (l1 : List S38) (r : Bool) (w : World) (hr0 : Kd.C (Kd.int .i64) w A0 l0.length l0) (hc0 : l0.length ≤ c0) (hr1 : Kd.C k38 w A1 l1.length l1) (hc1 : l1.length ≤ c1) (h : pacelinelaw06_PubsubScript.f k l0 l1 = some r) :
    Calls Try.prog 5 #[.slice A0 l0.length c0, .slice A1 l1.length c1] w fun e w' => e = .returned (.bool r) ∧ Below w.heap.size w w' := by
  obtain rfl := Option.some.inj h
  clear h
  by_cases hl0 : l0.length ≤ 100
  · by_cases hl1 : l1.length ≤ 100
    · have d0 : decide ((100 : Int) < (l0.length : Int)) = false := decide_eq_false (by omega)
      have d1 : decide ((100 : Int) < (l1.length : Int)) = false := decide_eq_false (by omega)
      by_cases ht : Tree l0
      · have HR := Aside0.mk hr1
        have HLL := Aside0.mk hl1
        have HTr := Aside0.mk ht
        have CN := Aside0.mk (new_calls_ok A0 c0 l0 w hr0 hc0 ht)
        have CM := Aside0.mk (fun U W (hW : Below w.heap.size w W) hU => rnew_calls_ok U A0 c0 l0 W hU (Kd.C_below hr0 hW) hc0 ht)
        clear hr0 hc0 hr1 hc1 hl0 hl1 ht
        go_enter Try.func5, Try.ntmps5
        go_wp2_with (first
          | (go_at_call 8; (with_reducible refine CN.out.mono ?_); rintro e w1 ⟨b, a, m, rfl, ht, hb, hb1, hb2⟩; have HT := Aside0.mk ht; have HB1 := Aside0.mk hb; have HG := Aside0.mk hb1; have HU := Aside0.mk (show ∀ k, (k = b ∨ k = a) → k < w1.heap.size from fun k hk => hk.elim (fun e => e ▸ blk_lt HT.out.blk) (fun e => e ▸ World.block_lt_of_cell? _ _ (HT.out.ca 0 (by rw [aw_len]; have := HTr.out.1; omega)))); clear ht hb hb1 hb2)
          | (go_at_call 9; (with_reducible refine (CM.out (fun k => k = b ∨ k = a) _ HB1.out HU.out).mono ?_); rintro e w2 ⟨b2, g, h, rfl, ht, hb, hb1, hb2, hb3⟩; have HT1 := Aside0.mk (HT.out.below hb); have HT2 := Aside0.mk ht; have HB := Aside0.mk (below_step HB1.out hb); have HG2 := Aside0.mk (And.intro (Nat.le_trans HB1.out.size hb2) (Nat.le_trans HB1.out.size hb3)); have HN := Aside0.mk (show (b ≠ b2 ∧ b ≠ g ∧ b ≠ h) ∧ (a ≠ b2 ∧ a ≠ g ∧ a ≠ h) by have h1 := HU.out b (Or.inl rfl); have h2 := HU.out a (Or.inr rfl); omega); clear ht hb hb1 hb2 hb3))
        have HA := Aside0.mk (aw_len l0 l0.length)
        have HQ := Aside0.mk (And.intro (rel_new l0.length) (rel_new l0.length))
        have HSh := Aside0.mk (And.intro (short_new 0) (short_new 0))
        clear CN CM HT HU HB1 d0 d1
        go_loopw [9, 10, 11] (fun v9 v10 v11 wr => ∃ (i : Nat) (ps ss : List Int) (Lp Ls : List (List Int)), i ≤ l1.length ∧ v9 = .int .i64 i ∧ Aside0 (Tab wr b a m (aw l0 l0.length) ps ss) ∧ Aside0 (RTab (fun k => k = b2 ∨ k = g ∨ k = h ∨ (k = b ∨ k = a)) wr b2 g h l0 Lp Ls) ∧ Aside0 (Rel l0.length ps Lp ∧ Rel l0.length ss Ls) ∧ Aside0 (Short Lp i ∧ Short Ls i) ∧ Aside0 (Below w.heap.size w wr)) (fun i _ _ _ => l1.length - (intOf i).toNat)
        case atStart => exact ⟨0, _, _, _, _, by omega, rfl, HT1, HT2, HQ, HSh, HB⟩
        case round =>
          clear HT1 HT2 HB HQ HSh
          obtain ⟨i, ps, ss, Lp, Ls, hi, rfl, HT1, HT2, HQ, HSh, HB⟩ := hrel
          by_cases hlt : i < l1.length
          · have hlt1 : (i : Int) < (l1.length : Int) := by omega
            have h100 : (i : Int) < 100 := by have := HLL.out; omega
            obtain ⟨ad, rfl, q0, q1, q2, q3⟩ := at_T38 HR.out (i : Int) (by omega) hlt1
            rw [Int.toNat_natCast] at q0 q1 q2 q3
            replace q0 := pw_cell_below HB.out q0
            replace q1 := pw_cell_below HB.out q1
            replace q2 := pw_cell_below HB.out q2
            replace q3 := pw_cell_below HB.out q3
            generalize (rd_T38 l1 i) = x at q0 q1 q2 q3
            by_cases h0 : x.f0 = 0
            · rw [h0] at q0
              clear h0
              have BA := Aside0.mk (below_alloc (Below.refl wr.heap.size wr) (.cells #[.int .i64 0, .int .i64 x.f1, .int .i64 x.f2, .bool x.f3] 38 (0, 0)))
              have BN := Aside0.mk (show (wr.alloc (.cells #[.int .i64 0, .int .i64 x.f1, .int .i64 x.f2, .bool x.f3] 38 (0, 0))).heap[wr.heap.size]? = some (.cells #[.int .i64 0, .int .i64 x.f1, .int .i64 x.f2, .bool x.f3] 38 (0, 0)) from blk_new wr _)
              have HQ4 := Aside0.mk (show Rel l0.length (doP l0.length ps 0 x.f1 x.f2 x.f3) (doLp l0.length Lp 0 x.f1 x.f2 x.f3) ∧ Rel l0.length (doS l0.length ss 0 x.f1 x.f2 x.f3) (doLs l0.length Ls 0 x.f1 x.f2 x.f3) from ⟨fun f hf => rel_doP HTr.out.2.1 HT1.out.lp HT2.out.lp (HQ.out.1 f hf) _ _ _ _, fun f hf => rel_doS HTr.out.2.1 HT1.out.ls HT2.out.ls (HQ.out.2 f hf) _ _ _ _⟩)
              have HS4 := Aside0.mk (And.intro (short_doLp (n := l0.length) HSh.out.1 0 x.f1 x.f2 x.f3) (short_doLs (n := l0.length) HSh.out.2 0 x.f1 x.f2 x.f3))
              have HT0 := Aside0.mk (HT1.out.below BA.out)
              have HR0 := Aside0.mk (HT2.out.below BA.out)
              have HB0 := Aside0.mk (below_step HB.out BA.out)
              have HL0 := Aside0.mk (And.intro (HT2.out.lt g (Or.inr (Or.inl rfl))) (HT2.out.lt h (Or.inr (Or.inr (Or.inl rfl)))))
              have CR := Aside0.mk (rpublish_calls HR0.out (short_more HSh.out.1 (show i ≤ 1000 by omega)) x.f1 x.f2 x.f3)
              have hE : doE l0.length 0 x.f1 x.f2 = errT l0.length x.f1 x.f2 := rfl
              have HE := Aside0.mk hE
              clear hE
              go_wp2_with (first | (go_at_call 18; (with_reducible refine CR.out.mono ?_); rintro e w3 ⟨rfl, ht, hb⟩; have HR3 := Aside0.mk ht; have HT3 := Aside0.mk (HT0.out.but hb (by have := HN.out; omega) (by have := HN.out; omega)); have HB3 := Aside0.mk (But.below HB0.out hb HB0.out.size (fun k hk => hk.elim (fun e => e ▸ HG2.out.1) (fun e => e ▸ HG2.out.2))); have ko := hb.blk BN.out (by have := HL0.out; omega); have k0 := (blk_cell ko 0).trans rfl; have k1 := (blk_cell ko 1).trans rfl; have k2 := (blk_cell ko 2).trans rfl; have k3 := (blk_cell ko 3).trans rfl; clear ht hb ko) | (go_at_call 15; (with_reducible refine (does_calls HT3.out 0 x.f1 x.f2 x.f3).mono ?_); rw [aw_len, HE.out]; rintro e w4 ⟨rfl, ht, hb⟩; have HT4 := Aside0.mk ht; have HR4 := Aside0.mk ((show RTab (fun k => k = b2 ∨ k = g ∨ k = h ∨ (k = b ∨ k = a)) w3 b2 g h l0 (doLp l0.length Lp 0 x.f1 x.f2 x.f3) (doLs l0.length Ls 0 x.f1 x.f2 x.f3) from HR3.out).but hb (fun k hk => ⟨Or.inr (Or.inr (Or.inr (Or.inl hk))), by have := HN.out; omega, by have := HN.out; omega, by have := HN.out; omega⟩)); have HB4 := Aside0.mk (But.below HB3.out hb HB3.out.size (fun k hk => hk ▸ HG.out)); clear ht hb))
              go_roundw
              case rel => exact ⟨i + 1, _, _, _, _, by omega, by go_num, HT4, HR4, HQ4, HS4, HB4⟩
              case measure => simp [intOf]; omega
            · by_cases h1 : x.f0 = 1
              · rw [h1] at q0
                clear h0 h1
                have BA := Aside0.mk (below_alloc (Below.refl wr.heap.size wr) (.cells #[.int .i64 1, .int .i64 x.f1, .int .i64 x.f2, .bool x.f3] 38 (0, 0)))
                have BN := Aside0.mk (show (wr.alloc (.cells #[.int .i64 1, .int .i64 x.f1, .int .i64 x.f2, .bool x.f3] 38 (0, 0))).heap[wr.heap.size]? = some (.cells #[.int .i64 1, .int .i64 x.f1, .int .i64 x.f2, .bool x.f3] 38 (0, 0)) from blk_new wr _)
                have HQ4 := Aside0.mk (show Rel l0.length (doP l0.length ps 1 x.f1 x.f2 x.f3) (doLp l0.length Lp 1 x.f1 x.f2 x.f3) ∧ Rel l0.length (doS l0.length ss 1 x.f1 x.f2 x.f3) (doLs l0.length Ls 1 x.f1 x.f2 x.f3) from ⟨fun f hf => rel_doP HTr.out.2.1 HT1.out.lp HT2.out.lp (HQ.out.1 f hf) _ _ _ _, fun f hf => rel_doS HTr.out.2.1 HT1.out.ls HT2.out.ls (HQ.out.2 f hf) _ _ _ _⟩)
                have HS4 := Aside0.mk (And.intro (short_doLp (n := l0.length) HSh.out.1 1 x.f1 x.f2 x.f3) (short_doLs (n := l0.length) HSh.out.2 1 x.f1 x.f2 x.f3))
                have HT0 := Aside0.mk (HT1.out.below BA.out)
                have HR0 := Aside0.mk (HT2.out.below BA.out)
                have HB0 := Aside0.mk (below_step HB.out BA.out)
                have HL0 := Aside0.mk (And.intro (HT2.out.lt g (Or.inr (Or.inl rfl))) (HT2.out.lt h (Or.inr (Or.inr (Or.inl rfl)))))
                have CR := Aside0.mk (rsubscribe_calls HR0.out (short_more HSh.out.2 (show i ≤ 1000 by omega)) x.f1 x.f2 x.f3)
                have hE : doE l0.length 1 x.f1 x.f2 = errT l0.length x.f1 x.f2 := rfl
                have HE := Aside0.mk hE
                clear hE
                go_wp2_with (first | (go_at_call 11; (with_reducible refine CR.out.mono ?_); rintro e w3 ⟨rfl, ht, hb⟩; have HR3 := Aside0.mk ht; have HT3 := Aside0.mk (HT0.out.but hb (by have := HN.out; omega) (by have := HN.out; omega)); have HB3 := Aside0.mk (But.below HB0.out hb HB0.out.size (fun k hk => hk.elim (fun e => e ▸ HG2.out.1) (fun e => e ▸ HG2.out.2))); have ko := hb.blk BN.out (by have := HL0.out; omega); have k0 := (blk_cell ko 0).trans rfl; have k1 := (blk_cell ko 1).trans rfl; have k2 := (blk_cell ko 2).trans rfl; have k3 := (blk_cell ko 3).trans rfl; clear ht hb ko) | (go_at_call 15; (with_reducible refine (does_calls HT3.out 1 x.f1 x.f2 x.f3).mono ?_); rw [aw_len, HE.out]; rintro e w4 ⟨rfl, ht, hb⟩; have HT4 := Aside0.mk ht; have HR4 := Aside0.mk ((show RTab (fun k => k = b2 ∨ k = g ∨ k = h ∨ (k = b ∨ k = a)) w3 b2 g h l0 (doLp l0.length Lp 1 x.f1 x.f2 x.f3) (doLs l0.length Ls 1 x.f1 x.f2 x.f3) from HR3.out).but hb (fun k hk => ⟨Or.inr (Or.inr (Or.inr (Or.inl hk))), by have := HN.out; omega, by have := HN.out; omega, by have := HN.out; omega⟩)); have HB4 := Aside0.mk (But.below HB3.out hb HB3.out.size (fun k hk => hk ▸ HG.out)); clear ht hb))
                go_roundw
                case rel => exact ⟨i + 1, _, _, _, _, by omega, by go_num, HT4, HR4, HQ4, HS4, HB4⟩
                case measure => simp [intOf]; omega
              · by_cases h2 : x.f0 = 2
                · rw [h2] at q0
                  clear h0 h1 h2
                  have BA := Aside0.mk (below_alloc (Below.refl wr.heap.size wr) (.cells #[.int .i64 2, .int .i64 x.f1, .int .i64 x.f2, .bool x.f3] 38 (0, 0)))
                  have BN := Aside0.mk (show (wr.alloc (.cells #[.int .i64 2, .int .i64 x.f1, .int .i64 x.f2, .bool x.f3] 38 (0, 0))).heap[wr.heap.size]? = some (.cells #[.int .i64 2, .int .i64 x.f1, .int .i64 x.f2, .bool x.f3] 38 (0, 0)) from blk_new wr _)
                  have HQ4 := Aside0.mk (show Rel l0.length (doP l0.length ps 2 x.f1 x.f2 x.f3) (doLp l0.length Lp 2 x.f1 x.f2 x.f3) ∧ Rel l0.length (doS l0.length ss 2 x.f1 x.f2 x.f3) (doLs l0.length Ls 2 x.f1 x.f2 x.f3) from ⟨fun f hf => rel_doP HTr.out.2.1 HT1.out.lp HT2.out.lp (HQ.out.1 f hf) _ _ _ _, fun f hf => rel_doS HTr.out.2.1 HT1.out.ls HT2.out.ls (HQ.out.2 f hf) _ _ _ _⟩)
                  have HS4 := Aside0.mk (And.intro (short_doLp (n := l0.length) HSh.out.1 2 x.f1 x.f2 x.f3) (short_doLs (n := l0.length) HSh.out.2 2 x.f1 x.f2 x.f3))
                  have HT0 := Aside0.mk (HT1.out.below BA.out)
                  have HR0 := Aside0.mk (HT2.out.below BA.out)
                  have HB0 := Aside0.mk (below_step HB.out BA.out)
                  have HL0 := Aside0.mk (And.intro (HT2.out.lt g (Or.inr (Or.inl rfl))) (HT2.out.lt h (Or.inr (Or.inr (Or.inl rfl)))))
                  have CR := Aside0.mk (rleave_calls HR0.out x.f1)
                  have hE : doE l0.length 2 x.f1 x.f2 = errF x.f1 := rfl
                  have HE := Aside0.mk hE
                  clear hE
                  go_wp2_with (first | (go_at_call 19; (with_reducible refine CR.out.mono ?_); rintro e w3 ⟨rfl, ht, hb⟩; have HR3 := Aside0.mk ht; have HT3 := Aside0.mk (HT0.out.but hb (by have := HN.out; omega) (by have := HN.out; omega)); have HB3 := Aside0.mk (But.below HB0.out hb HB0.out.size (fun k hk => hk.elim (fun e => e ▸ HG2.out.1) (fun e => e ▸ HG2.out.2))); have ko := hb.blk BN.out (by have := HL0.out; omega); have k0 := (blk_cell ko 0).trans rfl; have k1 := (blk_cell ko 1).trans rfl; have k2 := (blk_cell ko 2).trans rfl; have k3 := (blk_cell ko 3).trans rfl; clear ht hb ko) | (go_at_call 15; (with_reducible refine (does_calls HT3.out 2 x.f1 x.f2 x.f3).mono ?_); rw [aw_len, HE.out]; rintro e w4 ⟨rfl, ht, hb⟩; have HT4 := Aside0.mk ht; have HR4 := Aside0.mk ((show RTab (fun k => k = b2 ∨ k = g ∨ k = h ∨ (k = b ∨ k = a)) w3 b2 g h l0 (doLp l0.length Lp 2 x.f1 x.f2 x.f3) (doLs l0.length Ls 2 x.f1 x.f2 x.f3) from HR3.out).but hb (fun k hk => ⟨Or.inr (Or.inr (Or.inr (Or.inl hk))), by have := HN.out; omega, by have := HN.out; omega, by have := HN.out; omega⟩)); have HB4 := Aside0.mk (But.below HB3.out hb HB3.out.size (fun k hk => hk ▸ HG.out)); clear ht hb))
                  go_roundw
                  case rel => exact ⟨i + 1, _, _, _, _, by omega, by go_num, HT4, HR4, HQ4, HS4, HB4⟩
                  case measure => simp [intOf]; omega
                · have BA := Aside0.mk (below_alloc (Below.refl wr.heap.size wr) (.cells #[.int .i64 x.f0, .int .i64 x.f1, .int .i64 x.f2, .bool x.f3] 38 (0, 0)))
                  have BN := Aside0.mk (show (wr.alloc (.cells #[.int .i64 x.f0, .int .i64 x.f1, .int .i64 x.f2, .bool x.f3] 38 (0, 0))).heap[wr.heap.size]? = some (.cells #[.int .i64 x.f0, .int .i64 x.f1, .int .i64 x.f2, .bool x.f3] 38 (0, 0)) from blk_new wr _)
                  have HQ4 := Aside0.mk (show Rel l0.length (doP l0.length ps x.f0 x.f1 x.f2 x.f3) (doLp l0.length Lp x.f0 x.f1 x.f2 x.f3) ∧ Rel l0.length (doS l0.length ss x.f0 x.f1 x.f2 x.f3) (doLs l0.length Ls x.f0 x.f1 x.f2 x.f3) from ⟨fun f hf => rel_doP HTr.out.2.1 HT1.out.lp HT2.out.lp (HQ.out.1 f hf) _ _ _ _, fun f hf => rel_doS HTr.out.2.1 HT1.out.ls HT2.out.ls (HQ.out.2 f hf) _ _ _ _⟩)
                  have HS4 := Aside0.mk (And.intro (short_doLp (n := l0.length) HSh.out.1 x.f0 x.f1 x.f2 x.f3) (short_doLs (n := l0.length) HSh.out.2 x.f0 x.f1 x.f2 x.f3))
                  have HT0 := Aside0.mk (HT1.out.below BA.out)
                  have HR0 := Aside0.mk (HT2.out.below BA.out)
                  have HB0 := Aside0.mk (below_step HB.out BA.out)
                  have HL0 := Aside0.mk (And.intro (HT2.out.lt g (Or.inr (Or.inl rfl))) (HT2.out.lt h (Or.inr (Or.inr (Or.inl rfl)))))
                  have HR3 := HR0
                  have HT3 := HT0
                  have HB3 := HB0
                  have e0 : (x.f0 == 0) = false := beq_eq_false_iff_ne.mpr h0
                  have e1 : (x.f0 == 1) = false := beq_eq_false_iff_ne.mpr h1
                  have e2 : (x.f0 == 2) = false := beq_eq_false_iff_ne.mpr h2
                  have hE : doE l0.length x.f0 x.f1 x.f2 = 0 := by unfold doE; rw [if_neg (by omega), if_neg h2]
                  have HE := Aside0.mk hE
                  clear hE
                  have HRR := Aside0.mk (show RTab (fun k => k = b2 ∨ k = g ∨ k = h ∨ (k = b ∨ k = a)) (wr.alloc (.cells #[.int .i64 x.f0, .int .i64 x.f1, .int .i64 x.f2, .bool x.f3] 38 (0, 0))) b2 g h l0 (doLp l0.length Lp x.f0 x.f1 x.f2 x.f3) (doLs l0.length Ls x.f0 x.f1 x.f2 x.f3) from (by have e1 : doLp l0.length Lp x.f0 x.f1 x.f2 x.f3 = Lp := (by unfold doLp; rw [if_neg h0, if_neg h2]); have e2 : doLs l0.length Ls x.f0 x.f1 x.f2 x.f3 = Ls := (by unfold doLs; rw [if_neg h1, if_neg h2]); rw [e1, e2]; exact HR3.out))
                  clear HR3 h0 h1 h2
                  go_wp2_with (go_at_call 15; (with_reducible refine (does_calls HT3.out x.f0 x.f1 x.f2 x.f3).mono ?_); rw [aw_len, HE.out]; rintro e w4 ⟨rfl, ht, hb⟩; have HT4 := Aside0.mk ht; have HR4 := Aside0.mk (HRR.out.but hb (fun k hk => ⟨Or.inr (Or.inr (Or.inr (Or.inl hk))), by have := HN.out; omega, by have := HN.out; omega, by have := HN.out; omega⟩)); have HB4 := Aside0.mk (But.below HB3.out hb HB3.out.size (fun k hk => hk ▸ HG.out)); clear ht hb)
                  go_roundw
                  case rel => exact ⟨i + 1, _, _, _, _, by omega, by go_num, HT4, HR4, HQ4, HS4, HB4⟩
                  case measure => simp [intOf]; omega
          · obtain rfl : i = l1.length := by omega
            have HK := Aside0.mk (And.intro (short_more HSh.out.1 (show l1.length ≤ 1000 by have := HLL.out; omega)) (short_more HSh.out.2 (show l1.length ≤ 1000 by have := HLL.out; omega)))
            have HE := Aside0.mk (fun gi ci => route_same HTr.out HQ.out.1 HQ.out.2 gi ci)
            have HP := Aside0.mk (fun gi ci => pubs_same (n := l0.length) gi ci (fun h1 h2 => HQ.out.1 gi.toNat (by omega)))
            have HH := Aside0.mk (fun gi ci => hears_same HTr.out gi ci (fun h1 h2 => HQ.out.2 gi.toNat (by omega)))
            have hn := HTr.out.2.1
            clear HR hlt hi HSh
            go_wp2
            go_loopw [12, 13, 14, 15, 16, 17] (fun v12 v13 v14 v15 v16 v17 wr2 => ∃ gi : Int, -1 ≤ gi ∧ gi ≤ 9 ∧ v12 = .int .i64 gi ∧ Aside0 (Tab wr2 b a m (aw l0 l0.length) ps ss) ∧ Aside0 (RTab (fun k => k = b2 ∨ k = g ∨ k = h ∨ (k = b ∨ k = a)) wr2 b2 g h l0 Lp Ls) ∧ Aside0 (Below w.heap.size w wr2)) (fun g _ _ _ _ _ _ => (9 - intOf g).toNat)
            case atStart => exact ⟨-1, by omega, by omega, rfl, HT1, HT2, HB⟩
            case round =>
              clear HT1 HT2 HB
              obtain ⟨gi, hg1, hg2, rfl, HT1, HT2, HB⟩ := hrel
              by_cases hlt : gi ≤ 8
              · have hd8 : decide (gi ≤ 8) = true := decide_eq_true hlt
                have hlt0 := Aside0.mk hlt
                clear hlt
                go_wp2
                clear hd8
                go_loopw [13, 14, 15, 16, 17] (fun v13 v14 v15 v16 v17 wr3 => ∃ ci : Int, -1 ≤ ci ∧ ci ≤ (l0.length : Int) + 1 ∧ v13 = .int .i64 ci ∧ Aside0 (Tab wr3 b a m (aw l0 l0.length) ps ss) ∧ Aside0 (RTab (fun k => k = b2 ∨ k = g ∨ k = h ∨ (k = b ∨ k = a)) wr3 b2 g h l0 Lp Ls) ∧ Aside0 (Below w.heap.size w wr3)) (fun c _ _ _ _ _ => ((l0.length : Int) + 1 - intOf c).toNat)
                case atStart => exact ⟨-1, by omega, by omega, rfl, HT1, HT2, HB⟩
                case round =>
                  clear HT1 HT2 HB
                  obtain ⟨ci, hc1, hc2, rfl, HT1, HT2, HB⟩ := hrel
                  by_cases hltc : ci ≤ (l0.length : Int)
                  · have CR1 := Aside0.mk (route_calls HT1.out gi ci)
                    rw [aw_len, (HE.out gi ci).1, (HE.out gi ci).2] at CR1
                    have CR2 := Aside0.mk (fun W (hW : Below wr.heap.size wr W) => rroute_calls (HT2.out.below hW) HK.out.1 HK.out.2 gi ci)
                    have CP1 := Aside0.mk (fun W (hW : Below wr.heap.size wr W) => publishes_calls (HT1.out.below hW) gi ci)
                    rw [aw_len, HP.out gi ci] at CP1
                    have CP2 := Aside0.mk (fun W (hW : Below wr.heap.size wr W) => rpublishes_calls (HT2.out.below hW) HK.out.1 gi ci)
                    have CH1 := Aside0.mk (fun W (hW : Below wr.heap.size wr W) => hears_calls (HT1.out.below hW) gi ci)
                    rw [HH.out gi ci] at CH1
                    have CH2 := Aside0.mk (fun W (hW : Below wr.heap.size wr W) => rhears_calls (HT2.out.below hW) HK.out.2 gi ci)
                    have hLL : (if rrouteE l0.length Lp gi ci = 0 then rrouteL l0 Ls gi ci else []).length ≤ 8 := by
                      split
                      · exact rrouteP_len _ _ _ _ _
                      · simp
                    generalize (if rrouteE l0.length Lp gi ci = 0 then rrouteL l0 Ls gi ci else []) = L at CR1 CR2 hLL
                    generalize rrouteE l0.length Lp gi ci = e at CR1 CR2
                    generalize rpubB l0.length Lp gi ci = p at CP1 CP2
                    generalize rhearB l0 Ls gi ci = q at CH1 CH2
                    have CS := Aside0.mk (fun A B c d W h1 h2 h3 h4 => Go.Proofs.Ytbcegghbbhpkbaa.PBase.pacelinelaw06_same.calls (L.length + 1) A c L B d L true W h1 h2 h3 h4 (same_self L (by omega) _ (by omega)))
                    clear hLL
                    go_wp2_with (first
                      | (go_at_call 20; (with_reducible refine CR1.out.mono ?_); rintro e w5 ⟨v, rfl, ho, hb⟩; obtain ⟨A5, c5, rfl⟩ := Kd.R_slice ho; have O5 := Aside0.mk (Kd.R_reads' ho); have B5 := Aside0.mk hb; clear ho hb)
                      | (go_at_call 21; (with_reducible refine (CR2.out _ B5.out).mono ?_); rintro e w6 ⟨v, rfl, ho, hb⟩; obtain ⟨A6, c6, rfl⟩ := Kd.R_slice ho; have O6 := Aside0.mk (Kd.R_reads' ho); have D6 := Aside0.mk hb; have B6 := Aside0.mk (below_step B5.out hb); clear ho hb)
                      | (go_at_call 22; (with_reducible refine (CS.out _ _ _ _ _ (Kd.C_below O5.out.2.2 D6.out) O5.out.2.1 O6.out.2.2 O6.out.2.1).mono ?_); rintro e w7 ⟨rfl, hb7⟩; have B7 := Aside0.mk (below_step B6.out hb7.below); clear hb7)
                      | (go_at_call 16; (with_reducible refine (CP1.out _ B7.out).mono ?_); rintro e w8 ⟨rfl, rfl⟩)
                      | (go_at_call 23; (with_reducible refine (CP2.out _ B7.out).mono ?_); rintro e w9 ⟨rfl, hb9⟩; have B9 := Aside0.mk (below_step B7.out hb9); clear hb9)
                      | (go_at_call 12; (with_reducible refine (CH1.out _ B9.out).mono ?_); rintro e w10 ⟨rfl, nd, rfl⟩; have B10 := Aside0.mk (pw_below_drewN B9.out nd))
                      | (go_at_call 13; (with_reducible refine (CH2.out _ B10.out).mono ?_); rintro e w11 ⟨rfl, hb11⟩; have B11 := Aside0.mk (below_step B10.out hb11); clear hb11))
                    go_roundw
                    case rel => exact ⟨ci + 1, by omega, by omega, by go_num, ⟨HT1.out.below B11.out⟩, ⟨HT2.out.below B11.out⟩, ⟨below_step HB.out B11.out⟩⟩
                    case measure => simp [intOf]; omega
                  · go_wp2
                    go_roundw
                    case rel => exact ⟨gi + 1, by omega, by have := hlt0.out; omega, by go_num, HT1, HT2, HB⟩
                    case measure => have := hlt0.out; simp [intOf]; omega
              · go_wp2
                go_ret
                exact ⟨rfl, HB.out⟩
      · have CN := Aside0.mk (new_calls_no A0 c0 l0 w hr0 hc0 ht)
        have CM := Aside0.mk (fun W (hW : Below w.heap.size w W) => rnew_calls_no A0 c0 l0 W (Kd.C_below hr0 hW) hc0 ht)
        clear hr0 hc0 hr1 hc1 hl0 hl1 ht
        go_enter Try.func5, Try.ntmps5
        go_wp2_with (first
          | (go_at_call 8; (with_reducible refine CN.out.mono ?_); rintro e w1 ⟨rfl, hb⟩; have HB1 := Aside0.mk hb; clear hb)
          | (go_at_call 9; (with_reducible refine (CM.out _ HB1.out).mono ?_); rintro e w2 ⟨rfl, hb⟩; have HB2 := Aside0.mk (below_step HB1.out hb); clear hb))
        go_ret
        exact ⟨rfl, HB2.out⟩
    · have d0 : decide ((100 : Int) < (l0.length : Int)) = false := decide_eq_false (by omega)
      have d1 : decide ((100 : Int) < (l1.length : Int)) = true := decide_eq_true (by omega)
      clear hr0 hc0 hr1 hc1 hl0 hl1
      go_enter Try.func5, Try.ntmps5
      go_wp2
      go_ret
      exact ⟨rfl, Below.refl _ _⟩
  · have d0 : decide ((100 : Int) < (l0.length : Int)) = true := decide_eq_true (by omega)
    clear hr0 hc0 hr1 hc1 hl0
    go_enter Try.func5, Try.ntmps5
    go_wp2
    go_ret
    exact ⟨rfl, Below.refl _ _⟩


/-- THE ONE PURE STATEMENT of pacelinelaw06_PubsubScript. -/
def pacelinelaw06_PubsubScript.Pure : Prop := ∀ (l0 : List Int) (l1 : List (S38)), OkAll (fun n_ => (Lit.int .i64 n_).wf = true) l0 → OkAll (ok38) l1 → ∃ k, pacelinelaw06_PubsubScript.f k l0 l1 = some true
end Go.Proofs.Ytbcegghbbhpkbaa.PPubsubScript
