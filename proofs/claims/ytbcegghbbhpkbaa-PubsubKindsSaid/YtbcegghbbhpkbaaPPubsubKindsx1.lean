-- Written by gp.py (this project's driver over the kit's print) out of the translation and wip/given; Lean checks it.
import Derived.Test.YtbcegghbbhpkbaaPPubsubKindsx0
namespace Go.Proofs.Ytbcegghbbhpkbaa.PPubsubKinds
open Go.RowKit Go.Proofs.YtbcegghbbhpkbaaR Go.Proofs.YtbcegghbbhpkbaaW.PrintWords Go.Proofs.YtbcegghbbhpkbaaW.PrintLast Go.Proofs.YtbcegghbbhpkbaaW.PrintMore
attribute [local go_sem] max2_int min2_int max_two min_two max_three min_three max_four min_four   -- for this text's walks alone
set_option linter.unusedVariables false
set_option linter.unusedSimpArgs false

/-! ### pacelinelaw06_PubsubKinds: function 3 (by hand) -/
open Go.Proofs.YtbcegghbbhpkbaaT Go.Proofs.YtbcegghbbhpkbaaU
def pacelinelaw06_PubsubKinds.f (k : Nat) (l0 : List Int) (a1 a2 : Int) : Option Bool := if (l0.all fun x => decide (0 ≤ x ∧ x ≤ 255)) = true ∧ (0 ≤ a1 ∧ a1 ≤ 255) ∧ 0 ≤ a2 ∧ a2 ≤ 255 then some true else none
set_option maxRecDepth 100000 in
set_option maxHeartbeats 8000000 in
theorem pacelinelaw06_PubsubKinds.calls (k : Nat) (A0 : Option Addr) (c0 : Nat) (l0 : List Int) (a1 a2 : Int) (r : Bool) (w : World) (hr0 : Kd.C (Kd.int .u8) w A0 l0.length l0) (hc0 : l0.length ≤ c0) (h : pacelinelaw06_PubsubKinds.f k l0 a1 a2 = some r) :
    Calls Try.prog 3 #[.slice A0 l0.length c0, .int .u8 a1, .int .u8 a2] w fun e w' => e = .returned (.bool r) ∧ Below w.heap.size w w' := by
  unfold pacelinelaw06_PubsubKinds.f at h
  split at h
  · rename_i hP
    obtain rfl := Option.some.inj h
    clear h
    obtain ⟨hall, ⟨p1, p2⟩, p3, p4⟩ := hP
    have HAll := Aside0.mk (fun i (hi : i < l0.length) => show 0 ≤ rd l0 (i : Int) ∧ rd l0 (i : Int) ≤ 255 from by
      have := of_decide_eq_true (List.all_eq_true.mp hall (l0[i]) (List.getElem_mem hi))
      unfold rd
      rw [Int.toNat_natCast, List.getD_eq_getElem?_getD, List.getElem?_eq_getElem hi]
      exact this)
    have HR := Aside0.mk hr0
    clear hr0 hc0 hall
    go_enter Try.func3, Try.ntmps3
    go_wp2_with ((with_reducible refine gate_dst (N := 17) rfl ?_); refine Kd.R_lit (Kd.int .i64) w.heap.size 3 ?hg (N := 17) ?hd (xs := ([] : List Int)) (inner := []) (ok := fun _ => True) (okp := fun _ => True) ?hr ?hp (fun _ hk => hk) trivial (Below.refl _ _) (Nat.le_refl _) (by simp) ?_; (case hd => rfl); (case hg => rfl); (case hr => first | (go_simp; done) | (go_simp; rfl)); (case hp => exact (Reps.none _ _)); intro v1 w1 ho1 hb1 hg_ hnew_; clear hg_ hnew_; have HO := Aside0.mk ho1; have HB := Aside0.mk hb1; clear ho1 hb1)
    go_loopw [7, 8] (fun v7 v8 wr => ∃ i : Nat, i ≤ l0.length ∧ i ≤ 16 ∧ v8 = .int .i64 i ∧ Aside0 (Kd.R (Kd.int .i64) 3 wr w.heap.size (fun _ => True) v7 (kp l0 i)) ∧ Aside0 (Below w.heap.size w wr)) (fun _ i _ => 16 - (intOf i).toNat)
    case atStart => exact ⟨0, by omega, by omega, rfl, HO, HB⟩
    case round =>
      clear HO HB
      obtain ⟨i, hi, hi16, rfl, HO, HB⟩ := hrel
      by_cases hlt : i < l0.length ∧ i < 16
      · obtain ⟨hlt, hlt16⟩ := hlt
        have hlt1 : (i : Int) < (l0.length : Int) := by omega
        obtain ⟨ad, rfl, q0⟩ := Kd.at_int HR.out (i : Int) (by omega) hlt1
        rw [Int.toNat_natCast] at q0
        replace q0 := pw_cell_below HB.out q0
        obtain ⟨hx1, hx2⟩ := HAll.out i hlt
        have HKL := Aside0.mk (kp_len l0 i)
        have HK1 : Aside0 (kp l0 (i + 1) = kp l0 i ++ [rd l0 i % ((i : Int) + 1) - 1]) := ⟨rfl⟩
        generalize rd l0 (i : Int) = x at q0 hx1 hx2 HK1
        have hlo : 0 ≤ x % ((i : Int) + 1) := Int.emod_nonneg _ (by omega)
        have hhi : x % ((i : Int) + 1) < (i : Int) + 1 := Int.emod_lt_of_pos _ (by omega)
        go_wp2_with ((with_reducible refine gate_builtin (b := .append) (xs := #[.tmp 28, .tmp 38]) rfl ?_); at_builtin; refine Kd.R_append (Kd.int .i64) (w0 := w) w.heap.size rfl (.tmp 28) (.tmp 38) 23 3 (.int .i64 0) 8 rfl Try.underlying23 info_int rfl (by decide) (by omega) u7 (kp l0 i) (x % ((i : Int) + 1) - 1) [.int .i64 (x % ((i : Int) + 1) - 1)] (fun _ => True) (fun _ => False) rfl rfl ?aP (fun _ hk => hk.elim) ?aF ?aO ?aB ?aS ?aL ?_; (case aP => exact rfl); (case aB => exact HB.out); (case aF => exact (fun _ _ => trivial)); (case aO => exact HO.out); (case aS => exact HB.out.size); (case aL => have := HKL.out; omega); intro v3 w3 ho hb hg hat; rw [← HK1.out] at ho; have HO3 := Aside0.mk ho; have HB3 := Aside0.mk hb; clear ho hb hg hat)
        go_roundw
        case rel => exact ⟨i + 1, by omega, by omega, by go_num, HO3, HB3⟩
        case measure => simp [intOf]; omega
      · have hcase : (i = l0.length ∧ l0.length = 0) ∨ (i = l0.length ∧ 0 < l0.length) ∨ (i = 16 ∧ 16 < l0.length) := by omega
        clear hlt HR HAll
        rcases hcase with ⟨e, hz⟩ | ⟨e, hz⟩ | ⟨e, hz⟩
        obtain rfl : i = 0 := by omega
        obtain rfl : l0 = [] := List.length_eq_zero_iff.mp hz
        have HO0 := Aside0.mk (show Kd.R (Kd.int .i64) 3 wr w.heap.size (fun _ => True) u7 [] from HO.out)
        obtain ⟨Au, cu, rfl⟩ := Kd.R_slice HO0.out
        clear HO e hz hi hi16
        go_upto_region 8 with ((with_reducible refine gate_builtin (b := .append) (xs := #[.tmp 43, .tmp 44]) rfl ?_); at_builtin; refine Kd.R_append (Kd.int .i64) (w0 := w) w.heap.size rfl (.tmp 43) (.tmp 44) 23 3 (.int .i64 0) 8 rfl Try.underlying23 info_int rfl (by decide) (by omega) (.slice Au ([] : List Int).length cu) [] (-1) [.int .i64 (-1)] (fun _ => True) (fun _ => False) rfl rfl ?aP (fun _ hk => hk.elim) ?aF ?aO ?aB ?aS ?aL ?_; (case aP => exact rfl); (case aB => exact HB.out); (case aF => exact (fun _ _ => trivial)); (case aO => exact HO0.out); (case aS => exact HB.out.size); (case aL => simp); intro v3 w3 ho hb hg hat; obtain ⟨P, hPe⟩ : ∃ P : List Int, P = [] ++ [-1] := ⟨_, rfl⟩; rw [← hPe] at ho; have HPT := Aside0.mk (show Tree P by rw [hPe]; decide); clear hPe; obtain ⟨Ap, cp, rfl⟩ := Kd.R_slice ho; have HP := Aside0.mk (Kd.R_reads' ho); have HB3 := Aside0.mk hb; clear ho hb hg hat)
        clear HO0 HB
        have HB := HB3
        clear HB3
        generalize w3 = wr2 at HP HB ⊢
        rotate_left
        subst e
        have hz1 : decide ((l0.length : Int) < (l0.length : Int)) = false := decide_eq_false (by omega)
        obtain ⟨Au, cu, rfl⟩ := Kd.R_slice HO.out
        have HL := kp_len l0 l0.length
        have HPT := Aside0.mk (kp_tree l0 l0.length (by omega) (by omega))
        have HP := Aside0.mk (Kd.R_reads' HO.out)
        have HP1 : ((kp l0 l0.length).length : Int) ≠ 0 := by omega
        have HP3 : (((kp l0 l0.length).length : Int) == 0) = false := beq_eq_false_iff_ne.mpr (by omega)
        have HP2 : ((kp l0 l0.length).length == 0) = false := beq_eq_false_iff_ne.mpr (by omega)
        clear HO HL hi hi16
        generalize kp l0 l0.length = P at HP HPT HP1 HP2 HP3 ⊢
        generalize Au = Ap at HP ⊢
        generalize cu = cp at HP ⊢
        go_upto_region 8 with fail
        clear HP1 HP2 HP3 hz1 hz
        generalize wr = wr2 at HP HB ⊢
        rotate_left
        subst e
        have hz1 : decide (((16 : Nat) : Int) < (l0.length : Int)) = true := decide_eq_true (by omega)
        have hz2 : decide ((16 : Int) < (l0.length : Int)) = true := decide_eq_true (by omega)
        obtain ⟨Au, cu, rfl⟩ := Kd.R_slice HO.out
        have HL := kp_len l0 16
        have HPT := Aside0.mk (kp_tree l0 16 (by omega) (by omega))
        have HP := Aside0.mk (Kd.R_reads' HO.out)
        have HP1 : ((kp l0 16).length : Int) ≠ 0 := by omega
        have HP3 : (((kp l0 16).length : Int) == 0) = false := beq_eq_false_iff_ne.mpr (by omega)
        have HP2 : ((kp l0 16).length == 0) = false := beq_eq_false_iff_ne.mpr (by omega)
        clear HO HL hi hi16
        generalize kp l0 16 = P at HP HPT HP1 HP2 HP3 ⊢
        generalize Au = Ap at HP ⊢
        generalize cu = cp at HP ⊢
        go_upto_region 8 with fail
        clear HP1 HP2 HP3 hz1 hz2 hz
        generalize wr = wr2 at HP HB ⊢
        rotate_left
        all_goals
          have HBy := Aside0.mk HB.out
          have hPl := HPT.out.1
          have hPh := HPT.out.2.1
          have CN := Aside0.mk (new_calls_ok Ap cp P wr2 HP.out.2.2 HP.out.2.1 HPT.out)
          have CM := Aside0.mk (fun U W (hW : Below wr2.heap.size wr2 W) hU => rnew_calls_ok U Ap cp P W hU (Kd.C_below HP.out.2.2 hW) HP.out.2.1 HPT.out)
          obtain ⟨G, hG⟩ : ∃ G : Nat, a1 % 8 = G := ⟨(a1 % 8).toNat, by omega⟩
          have hG8 : G < 8 := by omega
          have hq1 := Int.emod_nonneg a2 (show (P.length : Int) ≠ 0 by omega)
          have hq2 := Int.emod_lt_of_pos a2 (show (0 : Int) < (P.length : Int) by omega)
          obtain ⟨K, hK⟩ : ∃ K : Nat, a2 % (P.length : Int) = K := ⟨(a2 % (P.length : Int)).toNat, by omega⟩
          have hKP : K < P.length := by omega
          clear hq1 hq2
          go_upto_region 12 with (first
            | (go_at_call 8; (with_reducible refine CN.out.mono ?_); rintro e w1 ⟨b, a, m, rfl, ht, hb, hb1, hb2⟩; have HT := Aside0.mk ht; have HD1 := Aside0.mk hb; have HG := Aside0.mk hb1; have HU := Aside0.mk (show ∀ k, (k = b ∨ k = a) → k < w1.heap.size from fun k hk => hk.elim (fun e => e ▸ blk_lt HT.out.blk) (fun e => e ▸ World.block_lt_of_cell? _ _ (HT.out.ca 0 (by rw [aw_len]; omega)))); clear ht hb hb1 hb2)
            | (go_at_call 9; (with_reducible refine (CM.out (fun k => k = b ∨ k = a) _ HD1.out HU.out).mono ?_); rintro e w2 ⟨b2, g, h, rfl, ht, hb, hb1, hb2, hb3⟩; have HT1 := Aside0.mk (HT.out.below hb); have HT2 := Aside0.mk ht; have HBx := Aside0.mk (below_step HB.out (below_step HD1.out hb)); have HG2 := Aside0.mk (And.intro (Nat.le_trans HD1.out.size hb1) (And.intro (Nat.le_trans HD1.out.size hb2) (Nat.le_trans HD1.out.size hb3))); have HN := Aside0.mk (show (b ≠ b2 ∧ b ≠ g ∧ b ≠ h) ∧ (a ≠ b2 ∧ a ≠ g ∧ a ≠ h) by have h1 := HU.out b (Or.inl rfl); have h2 := HU.out a (Or.inr rfl); omega); have HLt := Aside0.mk ((LAt.of_C (V := (fun k => k = b ∨ k = b2 ∨ k = g ∨ k = h)) HP.out.2.2 HP.out.2.1 (by omega) (fun k hk => by rcases hk with rfl | rfl | rfl | rfl; exact HG.out; exact HG2.out.1; exact HG2.out.2.1; exact HG2.out.2.2)).but (S := fun _ => False) (But.of_below (below_step HD1.out hb)) (fun _ hk => hk.elim)); clear ht hb hb1 hb2 hb3))
          rw [hG, hK]
          clear hG hK
          have hE : errT P.length (G : Int) (K : Int) = 0 := errT_ok (by omega) (by omega)
          have CS1 := Aside0.mk (subscribe_calls HT1.out G K true)
          rw [aw_len, hE] at CS1
          have CS2 := Aside0.mk (fun W (hW : RTab (fun k => k = b2 ∨ k = g ∨ k = h ∨ (k = b ∨ k = a)) W b2 g h P (List.replicate 8 []) (List.replicate 8 [])) => rsubscribe_calls hW (short_new 1000) G K true)
          rw [hE] at CS2
          clear HT HD1 HU HP CN CM HB
          go_wp2_with (first
            | (go_at_call 10; (with_reducible refine CS1.out.mono ?_); rintro e w3 ⟨rfl, ht, hb⟩; have HT3 := Aside0.mk ht; have HR3 := Aside0.mk (HT2.out.but hb (fun k hk => ⟨Or.inr (Or.inr (Or.inr (Or.inl hk))), by have := HN.out; omega, by have := HN.out; omega, by have := HN.out; omega⟩)); have HL3 := Aside0.mk (HLt.out.but hb (fun k hk => Or.inl hk)); have HB3 := Aside0.mk (But.below HBx.out hb HBx.out.size (fun k hk => hk ▸ Nat.le_trans HBy.out.size HG.out)); clear ht hb)
            | (go_at_call 11; (with_reducible refine (CS2.out _ HR3.out).mono ?_); rintro e w4 ⟨rfl, ht, hb⟩; have HR4 := Aside0.mk ht; have HT4 := Aside0.mk (HT3.out.but hb (by have := HN.out; omega) (by have := HN.out; omega)); have HL4 := Aside0.mk (HL3.out.but hb (fun k hk => Or.inr (Or.inr hk))); have HB4 := Aside0.mk (But.below HB3.out hb HB3.out.size (fun k hk => hk.elim (fun e => e ▸ Nat.le_trans HBy.out.size HG2.out.2.1) (fun e => e ▸ Nat.le_trans HBy.out.size HG2.out.2.2))); clear ht hb))
          obtain ⟨G2, hG2⟩ : ∃ G2 : Nat, ((G : Int) + 1) % 8 = G2 := ⟨(((G : Int) + 1) % 8).toNat, by omega⟩
          have hG28 : G2 < 8 := by omega
          have hG2n : G ≠ G2 := by omega
          have HGE := Aside0.mk hG2
          have HRS := Aside0.mk (fun (i : Nat) (hi : i < P.length) => (hears_same HPT.out (G : Int) (i : Int) (Ls := putL P.length (List.replicate 8 []) G K true) (fun h1 h2 => rel_put hPh rfl rfl (rel_new _ _ (by omega)) G K true)).symm.trans (hears_one HPT.out hG8 hKP i hi))
          clear hG2 hE CS1 CS2 HT1 HT2 HLt HT3 HR3 HL3 HB3 HBx
          go_loopw [15, 16] (fun v15 v16 wr => ∃ i : Nat, i ≤ P.length ∧ v15 = .int .i64 i ∧ Aside0 (Tab wr b a m (aw P P.length) (List.replicate 8 0) (putW P.length (List.replicate 8 0) G K true)) ∧ Aside0 (RTab (fun k => k = b2 ∨ k = g ∨ k = h ∨ (k = b ∨ k = a)) wr b2 g h P (List.replicate 8 []) (putL P.length (List.replicate 8 []) G K true)) ∧ Aside0 (LAt (fun k => k = b ∨ k = b2 ∨ k = g ∨ k = h) wr (.slice Ap P.length cp) P) ∧ Aside0 (Below w.heap.size w wr)) (fun i _ _ => P.length - (intOf i).toNat)
          case atStart => exact ⟨0, by omega, rfl, HT4, HR4, HL4, HB4⟩
          case round =>
            clear HT4 HR4 HL4 HB4
            obtain ⟨i, hi, rfl, HT, HR, HLt, HB⟩ := hrel
            by_cases hi2 : i < P.length
            · have hd8 : decide (i < P.length) = true := decide_eq_true hi2
              have hi0 := Aside0.mk hi2
              clear hi2
              go_wp2
              clear hd8
              go_loopw [16] (fun v16 wr => ∃ at_ : Int, -1 ≤ at_ ∧ at_ < (P.length : Int) ∧ v16 = .int .i64 at_ ∧ Aside0 (UpSame P (K : Int) at_ (i : Int)) ∧ Aside0 (Tab wr b a m (aw P P.length) (List.replicate 8 0) (putW P.length (List.replicate 8 0) G K true)) ∧ Aside0 (RTab (fun k => k = b2 ∨ k = g ∨ k = h ∨ (k = b ∨ k = a)) wr b2 g h P (List.replicate 8 []) (putL P.length (List.replicate 8 []) G K true)) ∧ Aside0 (LAt (fun k => k = b ∨ k = b2 ∨ k = g ∨ k = h) wr (.slice Ap P.length cp) P) ∧ Aside0 (Below w.heap.size w wr)) (fun a _ => (intOf a + 1).toNat)
              case atStart => exact ⟨(i : Int), by omega, by have := hi0.out; omega, rfl, ⟨rfl⟩, HT, HR, HLt, HB⟩
              case round =>
                clear HT HR HLt HB
                obtain ⟨at_, ha1, ha2, rfl, HU0, HT, HR, HLt, HB⟩ := hrel
                have HU := Aside0.mk (show ((K : Int) ∈ upL P at_) = ((K : Int) ∈ upL P (i : Int)) from HU0.out)
                clear HU0
                by_cases h0 : 0 ≤ at_
                · by_cases hk : at_ = (K : Int)
                  · subst hk
                    have hi2 := hi0.out
                    have hq : decide ((K : Int) ∈ upL P (i : Int)) = true := decide_eq_true (HU.out.mp (up_self HPT.out h0 ha2))
                    have CH1 := Aside0.mk (fun W (hW : Below wr.heap.size wr W) => hears_calls (HT.out.below hW) (G : Int) (i : Int))
                    rw [hears_one HPT.out hG8 hKP i hi2, hq] at CH1
                    have CH2 := Aside0.mk (fun W (hW : Below wr.heap.size wr W) => hears_calls (HT.out.below hW) (G2 : Int) (i : Int))
                    rw [hears_none HPT.out hG8 hG28 hG2n hKP i] at CH2
                    have CR1 := Aside0.mk (fun W (hW : Below wr.heap.size wr W) => rhears_calls (HR.out.below hW) (short_more (short_put (short_new 0) _ _ _) (by decide)) (G : Int) (i : Int))
                    rw [HRS.out i hi2, hq] at CR1
                    have HG2e := HGE.out
                    clear hq
                    go_wp2_with (first
                      | (go_at_call 12; (with_reducible refine (CH1.out _ (Below.refl _ _)).mono ?_); rintro e w5 ⟨rfl, nd5, rfl⟩)
                      | (go_at_call 12; (with_reducible refine (CH2.out _ (pw_below_drewN (Below.refl wr.heap.size wr) _)).mono ?_); rintro e w6 ⟨rfl, nd6, rfl⟩)
                      | (go_at_call 12; (with_reducible refine (CH1.out _ (pw_below_drewN (Below.refl wr.heap.size wr) _)).mono ?_); rintro e w7 ⟨rfl, nd7, rfl⟩)
                      | (go_at_call 13; (with_reducible refine (CR1.out _ (pw_below_drewN (Below.refl wr.heap.size wr) _)).mono ?_); rintro e w8 ⟨rfl, hb8⟩; have B8 := Aside0.mk (below_step (pw_below_drewN (Below.refl wr.heap.size wr) _) hb8); clear hb8))
                    go_roundw
                    case rel => exact ⟨i + 1, by omega, by go_num, ⟨HT.out.below B8.out⟩, ⟨HR.out.below B8.out⟩, ⟨HLt.out.but (S := fun _ => False) (But.of_below B8.out) (fun _ hk => hk.elim)⟩, ⟨below_step HB.out B8.out⟩⟩
                    case measure => simp [intOf]; omega
                  · obtain ⟨j, rfl⟩ : ∃ j : Nat, at_ = j := ⟨at_.toNat, by omega⟩
                    obtain ⟨Aq, cq, eq_, _, hC, _⟩ := HLt.out
                    injection eq_ with e1 e2 e3
                    subst e1
                    obtain ⟨ad, rfl, hcell⟩ := Kd.at_int hC (j : Int) h0 ha2
                    rw [Int.toNat_natCast] at hcell
                    have hrd := tree_rd HPT.out h0 ha2
                    have HU2 := Aside0.mk (show UpSame P (K : Int) (rd P (j : Int)) (i : Int) from (up_skip HPT.out h0 ha2 hk).symm.trans HU.out)
                    have e4 : ((j : Int) != (K : Int)) = true := bne_iff_ne.mpr hk
                    clear hC e2 e3 HU
                    have hjk : ¬ j = K := by omega
                    clear hk
                    generalize rd P (j : Int) = nx at hcell hrd HU2
                    go_wp2
                    go_roundw
                    case rel => exact ⟨nx, by omega, by omega, rfl, HU2, HT, HR, HLt, HB⟩
                    case measure => simp [intOf]; omega
                · have hi2 := hi0.out
                  have h1 : at_ < 0 := by omega
                  have e4 : (at_ == (K : Int)) = false := beq_eq_false_iff_ne.mpr (by omega)
                  have e5 : decide (0 ≤ at_) = false := decide_eq_false h0
                  have hq : decide ((K : Int) ∈ upL P (i : Int)) = false := decide_eq_false (fun h' => by have := HU.out.mpr h'; rw [upL_neg h1] at this; cases this)
                  have CH1 := Aside0.mk (fun W (hW : Below wr.heap.size wr W) => hears_calls (HT.out.below hW) (G : Int) (i : Int))
                  rw [hears_one HPT.out hG8 hKP i hi2, hq] at CH1
                  have CH2 := Aside0.mk (fun W (hW : Below wr.heap.size wr W) => hears_calls (HT.out.below hW) (G2 : Int) (i : Int))
                  rw [hears_none HPT.out hG8 hG28 hG2n hKP i] at CH2
                  have CR1 := Aside0.mk (fun W (hW : Below wr.heap.size wr W) => rhears_calls (HR.out.below hW) (short_more (short_put (short_new 0) _ _ _) (by decide)) (G : Int) (i : Int))
                  rw [HRS.out i hi2, hq] at CR1
                  have HG2e := HGE.out
                  clear hq
                  go_wp2_with (first
                    | (go_at_call 12; (with_reducible refine (CH1.out _ (Below.refl _ _)).mono ?_); rintro e w5 ⟨rfl, nd5, rfl⟩)
                    | (go_at_call 12; (with_reducible refine (CH2.out _ (pw_below_drewN (Below.refl wr.heap.size wr) _)).mono ?_); rintro e w6 ⟨rfl, nd6, rfl⟩)
                    | (go_at_call 12; (with_reducible refine (CH1.out _ (pw_below_drewN (Below.refl wr.heap.size wr) _)).mono ?_); rintro e w7 ⟨rfl, nd7, rfl⟩)
                    | (go_at_call 13; (with_reducible refine (CR1.out _ (pw_below_drewN (Below.refl wr.heap.size wr) _)).mono ?_); rintro e w8 ⟨rfl, hb8⟩; have B8 := Aside0.mk (below_step (pw_below_drewN (Below.refl wr.heap.size wr) _) hb8); clear hb8))
                  go_roundw
                  case rel => exact ⟨i + 1, by omega, by go_num, ⟨HT.out.below B8.out⟩, ⟨HR.out.below B8.out⟩, ⟨HLt.out.but (S := fun _ => False) (But.of_below B8.out) (fun _ hk => hk.elim)⟩, ⟨below_step HB.out B8.out⟩⟩
                  case measure => simp [intOf]; omega
            · obtain rfl : i = P.length := by omega
              have CL := Aside0.mk (leave_calls HT.out (G : Int))
              have e1 : errF (G : Int) = 0 := if_pos (by omega)
              rw [e1] at CL
              have HX := Aside0.mk (hears_left (ab := aw P P.length) hG8 HT.out.ls (K : Int))
              clear e1 hi hi2
              go_wp2_with (first
                | (go_at_call 14; (with_reducible refine CL.out.mono ?_); rintro e w5 ⟨rfl, ht, hb⟩; have HT5 := Aside0.mk ht; have HB5 := Aside0.mk (But.below HB.out hb HB.out.size (fun k hk => hk ▸ Nat.le_trans HBy.out.size HG.out)); clear ht hb)
                | (go_at_call 12; (with_reducible refine (hears_calls HT5.out (G : Int) (K : Int)).mono ?_); rw [HX.out]; rintro e w6 ⟨rfl, nd, rfl⟩; have HB6 := Aside0.mk (pw_below_drewN HB5.out nd)))
              go_ret
              exact ⟨rfl, HB6.out⟩
  · cases h


/-- THE ONE PURE STATEMENT of pacelinelaw06_PubsubKinds. -/
def pacelinelaw06_PubsubKinds.Pure : Prop := ∀ (l0 : List Int) (a1 : Int) (a2 : Int), OkAll (fun n_ => (Lit.int .u8 n_).wf = true) l0 → (Lit.int .u8 a1).wf = true → (Lit.int .u8 a2).wf = true → ∃ k, pacelinelaw06_PubsubKinds.f k l0 a1 a2 = some true
end Go.Proofs.Ytbcegghbbhpkbaa.PPubsubKinds
