-- Written by gp.py (this project's driver over the kit's print) out of the translation and wip/given; Lean checks it.
import Derived.Test.YtbcegghbbhpkbaaPPubsubRoutesx0
namespace Go.Proofs.Ytbcegghbbhpkbaa.PPubsubRoutes
open Go.RowKit Go.Proofs.YtbcegghbbhpkbaaR Go.Proofs.YtbcegghbbhpkbaaW.PrintWords Go.Proofs.YtbcegghbbhpkbaaW.PrintLast Go.Proofs.YtbcegghbbhpkbaaW.PrintMore
attribute [local go_sem] max2_int min2_int max_two min_two max_three min_three max_four min_four   -- for this text's walks alone
set_option linter.unusedVariables false
set_option linter.unusedSimpArgs false

/-! ### pacelinelaw06_PubsubRoutes: function 7 (by hand) -/
open Go.Proofs.YtbcegghbbhpkbaaT Go.Proofs.YtbcegghbbhpkbaaU
def pacelinelaw06_PubsubRoutes.f (k : Nat) (l0 : List S38) (a1 a2 : Int) : Option Bool := if (0 ≤ a1 ∧ a1 ≤ 255) ∧ 0 ≤ a2 ∧ a2 ≤ 255 then some true else none
set_option maxRecDepth 100000 in
set_option maxHeartbeats 4000000 in
theorem pacelinelaw06_PubsubRoutes.calls (k : Nat) (A0 : Option Addr) (c0 : Nat) (l0 : List S38) (a1 a2 : Int) (r : Bool) (w : World) (hr0 : Kd.C k38 w A0 l0.length l0) (hc0 : l0.length ≤ c0) (h : pacelinelaw06_PubsubRoutes.f k l0 a1 a2 = some r) :
    Calls Try.prog 7 #[.slice A0 l0.length c0, .int .u8 a1, .int .u8 a2] w fun e w' => e = .returned (.bool r) ∧ Below w.heap.size w w' := by
  unfold pacelinelaw06_PubsubRoutes.f at h
  split at h
  · rename_i hP
    obtain rfl := Option.some.inj h
    clear h
    obtain ⟨⟨p1, p2⟩, p3, p4⟩ := hP
    have HR := Aside0.mk hr0
    clear hr0 hc0
    by_cases hl : l0.length ≤ 100
    · have hC0 := lit_reads w [-1, 0, 0, 1] (by decide)
      have CN := Aside0.mk (show Calls Try.prog 8 #[.slice (some ⟨w.heap.size, 0, none⟩) 4 4] (w.alloc (.cells #[.int .i64 (-1), .int .i64 0, .int .i64 0, .int .i64 1] 3 (0, 0))) (NewP (w.alloc (.cells #[.int .i64 (-1), .int .i64 0, .int .i64 0, .int .i64 1] 3 (0, 0))) [-1, 0, 0, 1]) from
        new_calls_ok (some ⟨w.heap.size, 0, none⟩) 4 [-1, 0, 0, 1] _ hC0 (by decide) (by decide))
      have HB0 := Aside0.mk (below_alloc (Below.refl w.heap.size w) (.cells #[.int .i64 (-1), .int .i64 0, .int .i64 0, .int .i64 1] 3 (0, 0)))
      have hl1 : decide ((100 : Int) < (l0.length : Int)) = false := decide_eq_false (by omega)
      have HLL := Aside0.mk hl
      clear hC0 hl
      go_enter Try.func7, Try.ntmps7
      go_wp2_with (go_at_call 8; refine CN.out.mono ?_; rintro e w1 ⟨b, a, m, rfl, ht, hb, hb1, hb2⟩; have HT := Aside0.mk ht; have HB := Aside0.mk (below_step HB0.out hb); have HG := Aside0.mk (Nat.le_trans HB0.out.size hb1); clear ht hb hb1 hb2)
      have HA := Aside0.mk (aw_len [-1, 0, 0, 1] 4)
      generalize aw [-1, 0, 0, 1] 4 = ab at HT HA
      clear CN HB0 hl1
      go_loopw [10] (fun v10 wr => ∃ (i : Nat) (ps ss : List Int), i ≤ l0.length ∧ v10 = .int .i64 i ∧ Aside0 (Tab wr b a m ab ps ss) ∧ Aside0 (Below w.heap.size w wr)) (fun i _ => l0.length - (intOf i).toNat)
      case atStart => exact ⟨0, _, _, by omega, rfl, HT, HB⟩
      case round =>
        clear HT HB
        obtain ⟨i, ps, ss, hi, rfl, HT, HB⟩ := hrel
        by_cases hlt : i < l0.length
        · have hlt1 : (i : Int) < (l0.length : Int) := by omega
          have h100 : (i : Int) < 100 := by have := HLL.out; omega
          obtain ⟨ad, rfl, q0, q1, q2, q3⟩ := at_T38 HR.out (i : Int) (by omega) hlt1
          rw [Int.toNat_natCast] at q0 q1 q2 q3
          replace q0 := pw_cell_below HB.out q0
          replace q1 := pw_cell_below HB.out q1
          replace q2 := pw_cell_below HB.out q2
          replace q3 := pw_cell_below HB.out q3
          have CD := Aside0.mk (does_calls HT.out (rd_T38 l0 i).f0 (rd_T38 l0 i).f1 (rd_T38 l0 i).f2 (rd_T38 l0 i).f3)
          go_wp2_with (go_at_call 15; refine CD.out.mono ?_; rintro e w2 ⟨rfl, ht, hb⟩; have HT2 := Aside0.mk ht; have HB2 := Aside0.mk (But.below HB.out hb HB.out.size (fun k hk => hk ▸ HG.out)); clear ht hb)
          go_roundw
          case rel => exact ⟨i + 1, _, _, by omega, by go_num, HT2, HB2⟩
          case measure => simp [intOf]; omega
        · obtain rfl : i = l0.length := by omega
          clear HR hlt hi
          obtain ⟨F, hF⟩ : ∃ F : Nat, a1 % 8 = F := ⟨(a1 % 8).toNat, by omega⟩
          obtain ⟨C, hC⟩ : ∃ C : Nat, a2 % 4 = C := ⟨(a2 % 4).toNat, by omega⟩
          have hF8 : F < 8 := by omega
          have hC4 : C < 4 := by omega
          have hA4 := HA.out
          have he : errT ab.length F C = 0 := errT_ok (by omega) (by omega)
          have HE9 : Aside0 (errT ab.length F 9 = 81) := ⟨errT_c (by omega) (by omega)⟩
          have CR := Aside0.mk (route_calls HT.out F C)
          by_cases hq : pubsB ab.length ps F C = true
          · have hr : routeE ab.length ps F C = 0 := by unfold routeE; rw [if_pos he, if_pos hq]
            rw [hr, if_pos rfl] at CR
            clear hr he hA4
            go_wp2_with (first | (go_at_call 20; refine CR.out.mono ?_; rintro e w2 ⟨v, rfl, ho, hb⟩; obtain ⟨At, ct, rfl⟩ := Kd.R_slice ho; have HO2 := Aside0.mk (Kd.R_reads' ho); have HD2 := Aside0.mk hb; have HT2 := Aside0.mk (HT.out.below hb); have HB2 := Aside0.mk (below_step HB.out hb); clear ho hb) | (go_at_call 16; refine (publishes_calls HT2.out F C).mono ?_; rw [hq]; rintro e w3 ⟨rfl, rfl⟩))
            clear CR hq
            have HX := Aside0.mk (fun h hh => routeP_get ab ss F C h hh)
            have HY := Aside0.mk (routeP_step ab ss F C)
            have HLn := Aside0.mk (routeP_len ab ss F C 8)
            have HP8 : Aside0 (routeP ab ss F C 8 = routeL ab ss F C) := ⟨rfl⟩
            generalize routeL ab ss F C = L at HX HP8 HO2 ⊢
            go_loopw [15, 16] (fun v15 v16 wr2 => ∃ h : Nat, h ≤ 8 ∧ v16 = .int .i64 h ∧ v15 = .int .i64 ((routeP ab ss F C h).length : Nat) ∧ Aside0 (Below w2.heap.size w2 wr2)) (fun _ i _ => 8 - (intOf i).toNat)
            case atStart => exact ⟨0, by omega, rfl, rfl, ⟨Below.refl _ _⟩⟩
            case round =>
              obtain ⟨h, hh, rfl, rfl, HB3⟩ := hrel
              by_cases hlt : h < 8
              · have HY1 := Aside0.mk (HY.out h)
                have HX1 := Aside0.mk (HX.out h hlt)
                have CH := Aside0.mk (hears_calls (HT2.out.below HB3.out) h C)
                by_cases hhF : h = F
                · subst hhF
                  have HE : Aside0 (routeP ab ss h C (h + 1) = routeP ab ss h C h) := ⟨by rw [HY1.out]; simp⟩
                  clear HX1 HY1
                  go_wp2
                  go_roundw
                  case rel => exact ⟨h + 1, by omega, by go_num, by rw [HE.out], HB3⟩
                  case measure => simp [intOf]; omega
                · have hd : decide ((h : Int) ≠ (F : Int)) = true := decide_eq_true (by omega)
                  rw [hd, Bool.true_and] at HX1 HY1
                  clear hd
                  generalize hearsB ab ss h C = q at HX1 HY1 CH
                  cases q with
                  | false =>
                    have HE : Aside0 (routeP ab ss F C (h + 1) = routeP ab ss F C h) := ⟨by rw [HY1.out]; simp⟩
                    clear HX1 HY1
                    go_wp2_with (go_at_call 12; refine CH.out.mono ?_; rintro e w5 ⟨rfl, nd, rfl⟩; have HB5 := Aside0.mk (pw_below_drewN HB3.out nd))
                    go_roundw
                    case rel => exact ⟨h + 1, by omega, by go_num, by rw [HE.out], HB5⟩
                    case measure => simp [intOf]; omega
                  | true =>
                    obtain ⟨x1, x2, x3⟩ := HX1.out rfl
                    have HE : Aside0 ((routeP ab ss F C (h + 1)).length = (routeP ab ss F C h).length + 1) := ⟨by rw [x3]; simp⟩
                    have h8 := routeP_len ab ss F C h
                    clear HX1 HY1 x3
                    generalize (routeP ab ss F C h).length = n at HE x1 x2 h8 ⊢
                    have x1' : (n : Int) < (L.length : Int) := by omega
                    obtain ⟨ad, rfl, hcell⟩ := Kd.at_int HO2.out.2.2 (n : Int) (by omega) x1'
                    rw [Int.toNat_natCast, x2] at hcell
                    replace hcell := pw_cell_below HB3.out hcell
                    clear x2
                    go_wp2_with (go_at_call 12; refine CH.out.mono ?_; rintro e w5 ⟨rfl, nd, rfl⟩; have HB5 := Aside0.mk (pw_below_drewN HB3.out nd))
                    go_roundw
                    case rel => exact ⟨h + 1, by omega, by go_num, by rw [HE.out]; go_num, HB5⟩
                    case measure => simp [intOf]; omega
              · obtain rfl : h = 8 := by omega
                rw [HP8.out]
                clear hh hlt
                go_wp2_with (go_at_call 17; refine (publish_calls (HT2.out.below HB3.out) F 9 true).mono ?_; rw [HE9.out]; rintro e w4 ⟨rfl, ht, hb⟩; have HB4 := Aside0.mk (But.below (below_step HB2.out HB3.out) hb (below_step HB2.out HB3.out).size (fun k hk => hk ▸ HG.out)); clear ht hb)
                go_ret
                exact ⟨rfl, HB4.out⟩
          · replace hq := Bool.eq_false_iff.mpr hq
            have hr : routeE ab.length ps F C = 211 := by unfold routeE; rw [if_pos he, hq, if_neg (by decide)]
            rw [hr, if_neg (by decide)] at CR
            clear hr he hA4
            go_wp2_with (first | (go_at_call 20; refine CR.out.mono ?_; rintro e w2 ⟨v, rfl, ho, hb⟩; obtain ⟨At, ct, rfl⟩ := Kd.R_slice ho; have HO2 := Aside0.mk (Kd.R_reads' ho); have HD2 := Aside0.mk hb; have HT2 := Aside0.mk (HT.out.below hb); have HB2 := Aside0.mk (below_step HB.out hb); clear ho hb) | (go_at_call 16; refine (publishes_calls HT2.out F C).mono ?_; rw [hq]; rintro e w3 ⟨rfl, rfl⟩))
            clear CR hq
            go_loopw [15, 16] (fun v15 v16 wr2 => ∃ h : Nat, h ≤ 8 ∧ v16 = .int .i64 h ∧ v15 = .int .i64 0 ∧ Aside0 (Below w2.heap.size w2 wr2)) (fun _ i _ => 8 - (intOf i).toNat)
            case atStart => exact ⟨0, by omega, rfl, rfl, ⟨Below.refl _ _⟩⟩
            case round =>
              obtain ⟨h, hh, rfl, rfl, HB3⟩ := hrel
              by_cases hlt : h < 8
              · go_wp2
                go_roundw
                case rel => exact ⟨h + 1, by omega, by go_num, rfl, HB3⟩
                case measure => simp [intOf]; omega
              · obtain rfl : h = 8 := by omega
                clear hh hlt
                go_wp2_with (go_at_call 17; refine (publish_calls (HT2.out.below HB3.out) F 9 true).mono ?_; rw [HE9.out]; rintro e w4 ⟨rfl, ht, hb⟩; have HB4 := Aside0.mk (But.below (below_step HB2.out HB3.out) hb (below_step HB2.out HB3.out).size (fun k hk => hk ▸ HG.out)); clear ht hb)
                go_ret
                exact ⟨rfl, HB4.out⟩
    · have hl1 : (100 : Int) < (l0.length : Int) := by omega
      clear hl
      go_enter Try.func7, Try.ntmps7
      go_wp2
      go_ret
      exact ⟨rfl, Below.refl _ _⟩
  · cases h


/-- THE ONE PURE STATEMENT of pacelinelaw06_PubsubRoutes. -/
def pacelinelaw06_PubsubRoutes.Pure : Prop := ∀ (l0 : List (S38)) (a1 : Int) (a2 : Int), OkAll (ok38) l0 → (Lit.int .u8 a1).wf = true → (Lit.int .u8 a2).wf = true → ∃ k, pacelinelaw06_PubsubRoutes.f k l0 a1 a2 = some true
end Go.Proofs.Ytbcegghbbhpkbaa.PPubsubRoutes
