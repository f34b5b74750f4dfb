-- Written by gp.py (this project's driver over the kit's print) out of the translation and wip/given; Lean checks it.
import Derived.Test.YtbcegghbbhpkbaaPPubsubApartx0
namespace Go.Proofs.Ytbcegghbbhpkbaa.PPubsubApart
open Go.RowKit Go.Proofs.YtbcegghbbhpkbaaR Go.Proofs.YtbcegghbbhpkbaaW.PrintWords Go.Proofs.YtbcegghbbhpkbaaW.PrintLast Go.Proofs.YtbcegghbbhpkbaaW.PrintMore
attribute [local go_sem] max2_int min2_int max_two min_two max_three min_three max_four min_four   -- for this text's walks alone
set_option linter.unusedVariables false
set_option linter.unusedSimpArgs false

/-! ### pacelinelaw06_PubsubApart: function 4 (by hand) -/
open Go.Proofs.YtbcegghbbhpkbaaT Go.Proofs.YtbcegghbbhpkbaaU
def pacelinelaw06_PubsubApart.f (k : Nat) (l0 : List S38) (a1 : Int) : Option Bool := if 0 ≤ a1 ∧ a1 ≤ 255 then some true else none
set_option maxRecDepth 100000 in
set_option maxHeartbeats 8000000 in
theorem pacelinelaw06_PubsubApart.calls (k : Nat) (A0 : Option Addr) (c0 : Nat) (l0 : List S38) (a1 : Int) (r : Bool) (w : World) (hr0 : Kd.C k38 w A0 l0.length l0) (hc0 : l0.length ≤ c0) (h : pacelinelaw06_PubsubApart.f k l0 a1 = some r) :
    Calls Try.prog 4 #[.slice A0 l0.length c0, .int .u8 a1] w fun e w' => e = .returned (.bool r) ∧ Below w.heap.size w w' := by
  unfold pacelinelaw06_PubsubApart.f at h
  split at h
  · rename_i hP
    obtain rfl := Option.some.inj h
    clear h
    obtain ⟨p1, p2⟩ := hP
    have HR := Aside0.mk hr0
    clear hr0 hc0
    by_cases hl : l0.length ≤ 100
    · have hC0 := Aside0.mk (show Kd.C (Kd.int .i64) (w.alloc (.cells #[.int .i64 (-1), .int .i64 0, .int .i64 0, .int .i64 1, .int .i64 1, .int .i64 (-1)] 3 (0, 0))) (some ⟨w.heap.size, 0, none⟩) 6 [-1, 0, 0, 1, 1, -1] from lit_reads w [-1, 0, 0, 1, 1, -1] (by decide))
      have CN := Aside0.mk (fun W (hW : Below ((w.alloc (.cells #[.int .i64 (-1), .int .i64 0, .int .i64 0, .int .i64 1, .int .i64 1, .int .i64 (-1)] 3 (0, 0)))).heap.size (w.alloc (.cells #[.int .i64 (-1), .int .i64 0, .int .i64 0, .int .i64 1, .int .i64 1, .int .i64 (-1)] 3 (0, 0))) W) => show Calls Try.prog 8 #[.slice (some ⟨w.heap.size, 0, none⟩) 6 6] W (NewP W [-1, 0, 0, 1, 1, -1]) from
        new_calls_ok (some ⟨w.heap.size, 0, none⟩) 6 [-1, 0, 0, 1, 1, -1] W (Kd.C_below hC0.out hW) (by decide) (by decide))
      have HB0 := Aside0.mk (below_alloc (Below.refl w.heap.size w) (.cells #[.int .i64 (-1), .int .i64 0, .int .i64 0, .int .i64 1, .int .i64 1, .int .i64 (-1)] 3 (0, 0)))
      have HLL := Aside0.mk hl
      have hl1 : decide ((100 : Int) < (l0.length : Int)) = false := decide_eq_false (by omega)
      clear hC0 hl
      go_enter Try.func4, Try.ntmps4
      go_upto_region 6 with (first
        | (go_at_call 8; (with_reducible refine (CN.out _ (Below.refl _ _)).mono ?_); rintro e w1 ⟨b, a, m, rfl, ht, hb, hb1, hb2⟩; have HT := Aside0.mk ht; have HD1 := Aside0.mk hb; have HG := Aside0.mk (Nat.le_trans HB0.out.size hb1); clear ht hb hb1 hb2)
        | (go_at_call 8; (with_reducible refine (CN.out _ HD1.out).mono ?_); rintro e w2 ⟨b2, a2, m2, rfl, ht, hb, hb1, hb2⟩; have HT2 := Aside0.mk ht; have HB := Aside0.mk (below_step HB0.out (below_step HD1.out hb)); have HG2 := Aside0.mk (Nat.le_trans HB0.out.size (Nat.le_trans HD1.out.size hb1)); have HN := Aside0.mk (show b < b2 ∧ a < b2 ∧ b < a2 ∧ a < a2 from ⟨Nat.lt_of_lt_of_le (blk_lt HT.out.blk) hb1, Nat.lt_of_lt_of_le (World.block_lt_of_cell? _ _ (HT.out.ca 0 (by decide))) hb1, Nat.lt_of_lt_of_le (blk_lt HT.out.blk) hb2, Nat.lt_of_lt_of_le (World.block_lt_of_cell? _ _ (HT.out.ca 0 (by decide))) hb2⟩); have HT1 := Aside0.mk (HT.out.below hb); clear HT HD1 ht hb hb1 hb2))
      have HA := Aside0.mk (aw_len [-1, 0, 0, 1, 1, -1] 6)
      have HQ := Aside0.mk (show Agree (a1 % 8).toNat (List.replicate 8 0) (List.replicate 8 0) ∧ Agree (a1 % 8).toNat (List.replicate 8 0) (List.replicate 8 0) from ⟨fun _ _ _ => rfl, fun _ _ _ => rfl⟩)
      replace HT1 := Aside0.mk (show Tab w2 b a m (aw [-1, 0, 0, 1, 1, -1] 6) (List.replicate 8 0) (List.replicate 8 0) from HT1.out)
      replace HT2 := Aside0.mk (show Tab w2 b2 a2 m2 (aw [-1, 0, 0, 1, 1, -1] 6) (List.replicate 8 0) (List.replicate 8 0) from HT2.out)
      generalize aw [-1, 0, 0, 1, 1, -1] 6 = ab at HT1 HT2 HA
      obtain ⟨F, hF⟩ : ∃ F : Nat, a1 % 8 = F := ⟨(a1 % 8).toNat, by omega⟩
      have hF8 : F < 8 := by omega
      rw [hF, Int.toNat_natCast] at HQ
      clear CN HB0 hl1
      go_wp2
      rw [hF]
      clear hF
      go_loopw [11, 12] (fun v11 v12 wr => ∃ (i : Nat) (ps ss qs rs : List Int), i ≤ l0.length ∧ v11 = .int .i64 i ∧ Aside0 (Tab wr b a m ab ps ss) ∧ Aside0 (Tab wr b2 a2 m2 ab qs rs) ∧ Aside0 (Agree F ps qs ∧ Agree F ss rs) ∧ Aside0 (Below w.heap.size w wr)) (fun i _ _ => l0.length - (intOf i).toNat)
      case atStart => exact ⟨0, _, _, _, _, by omega, rfl, HT1, HT2, HQ, HB⟩
      case round =>
        clear HT1 HT2 HB HQ
        obtain ⟨i, ps, ss, qs, rs, hi, rfl, HT1, HT2, HQ, HB⟩ := hrel
        by_cases hlt : i < l0.length
        · have hlt1 : (i : Int) < (l0.length : Int) := by omega
          have h100 : (i : Int) < 100 := by have := HLL.out; omega
          obtain ⟨ad, rfl, q0, q1, q2, q3⟩ := at_T38 HR.out (i : Int) (by omega) hlt1
          rw [Int.toNat_natCast] at q0 q1 q2 q3
          have Q0 := Aside0.mk q0
          have Q1 := Aside0.mk q1
          have Q2 := Aside0.mk q2
          have Q3 := Aside0.mk q3
          replace q0 := pw_cell_below HB.out q0
          replace q1 := pw_cell_below HB.out q1
          replace q2 := pw_cell_below HB.out q2
          replace q3 := pw_cell_below HB.out q3
          generalize (rd_T38 l0 i) = x at q0 q1 q2 q3 Q0 Q1 Q2 Q3
          have CD := Aside0.mk (does_calls HT1.out x.f0 x.f1 x.f2 x.f3)
          by_cases hx : x.f1 = (F : Int)
          · have HQ2 := Aside0.mk (show Agree F (doP ab.length ps x.f0 x.f1 x.f2 x.f3) qs ∧ Agree F (doS ab.length ss x.f0 x.f1 x.f2 x.f3) rs by rw [hx]; exact ⟨agree_doP1 HT1.out.lp HQ.out.1 _ _ _, agree_doS1 HT1.out.ls HQ.out.2 _ _ _⟩)
            have e1 : (x.f1 != (F : Int)) = false := bne_eq_false_iff_eq.mpr hx
            clear hx
            go_wp2_with (go_at_call 15; refine CD.out.mono ?_; rintro e w3 ⟨rfl, ht, hb⟩; have HT3 := Aside0.mk ht; have HT4 := Aside0.mk (HT2.out.but hb (by have := HN.out; omega) (by have := HN.out; omega)); have HB3 := Aside0.mk (But.below HB.out hb HB.out.size (fun k hk => hk ▸ HG.out)); clear ht hb; replace q0 := pw_cell_below HB3.out Q0.out; replace q1 := pw_cell_below HB3.out Q1.out; replace q2 := pw_cell_below HB3.out Q2.out; replace q3 := pw_cell_below HB3.out Q3.out)
            go_roundw
            case rel => exact ⟨i + 1, _, _, _, _, by omega, by go_num, HT3, HT4, HQ2, HB3⟩
            case measure => simp [intOf]; omega
          · have HQ2 := Aside0.mk (show Agree F (doP ab.length ps x.f0 x.f1 x.f2 x.f3) (doP ab.length qs x.f0 x.f1 x.f2 x.f3) ∧ Agree F (doS ab.length ss x.f0 x.f1 x.f2 x.f3) (doS ab.length rs x.f0 x.f1 x.f2 x.f3) from ⟨agree_doP HT1.out.lp HT2.out.lp HQ.out.1 _ _ _ _, agree_doS HT1.out.ls HT2.out.ls HQ.out.2 _ _ _ _⟩)
            have e1 : (x.f1 != (F : Int)) = true := bne_iff_ne.mpr hx
            clear hx
            go_wp2_with (first
              | (go_at_call 15; (with_reducible refine CD.out.mono ?_); rintro e w3 ⟨rfl, ht, hb⟩; have HT3 := Aside0.mk ht; have HT4 := Aside0.mk (HT2.out.but hb (by have := HN.out; omega) (by have := HN.out; omega)); have HB3 := Aside0.mk (But.below HB.out hb HB.out.size (fun k hk => hk ▸ HG.out)); clear ht hb; replace q0 := pw_cell_below HB3.out Q0.out; replace q1 := pw_cell_below HB3.out Q1.out; replace q2 := pw_cell_below HB3.out Q2.out; replace q3 := pw_cell_below HB3.out Q3.out)
              | (go_at_call 15; (with_reducible refine (does_calls HT4.out x.f0 x.f1 x.f2 x.f3).mono ?_); rintro e w4 ⟨rfl, ht, hb⟩; have HT5 := Aside0.mk (HT3.out.but hb (by have := HN.out; omega) (by have := HN.out; omega)); have HT6 := Aside0.mk ht; have HB4 := Aside0.mk (But.below HB3.out hb HB3.out.size (fun k hk => hk ▸ HG2.out)); clear ht hb))
            go_roundw
            case rel => exact ⟨i + 1, _, _, _, _, by omega, by go_num, HT5, HT6, HQ2, HB4⟩
            case measure => simp [intOf]; omega
        · obtain rfl : i = l0.length := by omega
          clear hlt hi HR
          have HP := Aside0.mk (fun g c hg hgF => agree_pubs (n := ab.length) HQ.out.1 (g := g) (c := c) hg hgF)
          have HH := Aside0.mk (fun g c hg hgF => agree_hears (ab := ab) HQ.out.2 (g := g) (c := c) hg hgF)
          clear HQ
          go_wp2
          go_loopw [13, 14] (fun v13 v14 wr2 => ∃ g : Nat, g ≤ 8 ∧ v13 = .int .i64 g ∧ Aside0 (Tab wr2 b a m ab ps ss) ∧ Aside0 (Tab wr2 b2 a2 m2 ab qs rs) ∧ Aside0 (Below w.heap.size w wr2)) (fun g _ _ => 8 - (intOf g).toNat)
          case atStart => exact ⟨0, by omega, rfl, HT1, HT2, HB⟩
          case round =>
            clear HT1 HT2 HB
            obtain ⟨g, hg, rfl, HT1, HT2, HB⟩ := hrel
            by_cases hlt : g < 8
            · have hd8 : decide ((g : Int) < 8) = true := decide_eq_true (by omega)
              have hlt0 := Aside0.mk hlt
              clear hlt
              go_wp2
              clear hd8
              go_loopw [14] (fun v14 wr3 => ∃ c : Nat, c ≤ 6 ∧ v14 = .int .i64 c ∧ Aside0 (Tab wr3 b a m ab ps ss) ∧ Aside0 (Tab wr3 b2 a2 m2 ab qs rs) ∧ Aside0 (Below w.heap.size w wr3)) (fun c _ => 6 - (intOf c).toNat)
              case atStart => exact ⟨0, by omega, rfl, HT1, HT2, HB⟩
              case round =>
                clear HT1 HT2 HB
                obtain ⟨c, hc, rfl, HT1, HT2, HB⟩ := hrel
                by_cases hltc : c < 6
                · by_cases hgF : g = F
                  · subst hgF
                    go_wp2
                    go_roundw
                    case rel => exact ⟨c + 1, by omega, by go_num, HT1, HT2, HB⟩
                    case measure => simp [intOf]; omega
                  · have CP1 := Aside0.mk (publishes_calls HT1.out g c)
                    have CP2 := Aside0.mk (publishes_calls HT2.out g c)
                    rw [HP.out g c hlt0.out hgF] at CP1
                    have CH1 := Aside0.mk (hears_calls HT1.out g c)
                    rw [HH.out g c hlt0.out hgF] at CH1
                    go_wp2_with (first
                      | (go_at_call 16; (with_reducible refine CP1.out.mono ?_); rintro e w5 ⟨rfl, rfl⟩)
                      | (go_at_call 16; (with_reducible refine CP2.out.mono ?_); rintro e w5 ⟨rfl, rfl⟩)
                      | (go_at_call 12; (with_reducible refine CH1.out.mono ?_); rintro e w6 ⟨rfl, nd1, rfl⟩; have HX1 := Aside0.mk (HT1.out.drewN nd1); have HX2 := Aside0.mk (HT2.out.drewN nd1); have HX := Aside0.mk (pw_below_drewN HB.out nd1))
                      | (go_at_call 12; (with_reducible refine (hears_calls HX2.out g c).mono ?_); rintro e w7 ⟨rfl, nd2, rfl⟩; have HY1 := Aside0.mk (HX1.out.drewN nd2); have HY2 := Aside0.mk (HX2.out.drewN nd2); have HY := Aside0.mk (pw_below_drewN HX.out nd2)))
                    go_roundw
                    case rel => exact ⟨c + 1, by omega, by go_num, ⟨HT1.out.drewN _⟩, ⟨HT2.out.drewN _⟩, ⟨pw_below_drewN HB.out _⟩⟩
                    case measure => simp [intOf]; omega
                · obtain rfl : c = 6 := by omega
                  go_wp2
                  go_roundw
                  case rel => exact ⟨g + 1, by have := hlt0.out; omega, by go_num, HT1, HT2, HB⟩
                  case measure => have := hlt0.out; simp [intOf]; omega
            · obtain rfl : g = 8 := by omega
              have HE9 : Aside0 (errT ab.length F 9 = 81) := ⟨errT_c (by omega) (by have := HA.out; omega)⟩
              have HE99 : Aside0 (errT ab.length 99 0 = 1) := ⟨errT_f (by omega)⟩
              have CW1 := Aside0.mk (publish_calls HT1.out F 9 true)
              rw [HE9.out] at CW1
              clear hg hlt
              go_wp2_with (first
                | (go_at_call 17; (with_reducible refine CW1.out.mono ?_); rintro e w8 ⟨rfl, ht, hb⟩; have HT8 := Aside0.mk ht; have HB8 := Aside0.mk (But.below HB.out hb HB.out.size (fun k hk => hk ▸ HG.out)); clear ht hb)
                | (go_at_call 17; (with_reducible refine (publish_calls HT8.out 99 0 true).mono ?_); rw [HE99.out]; rintro e w9 ⟨rfl, ht, hb⟩; have HB9 := Aside0.mk (But.below HB8.out hb HB8.out.size (fun k hk => hk ▸ HG.out)); clear ht hb))
              go_ret
              exact ⟨rfl, HB9.out⟩
    · have hl1 : (100 : Int) < (l0.length : Int) := by omega
      clear hl
      go_enter Try.func4, Try.ntmps4
      go_wp2
      go_ret
      exact ⟨rfl, Below.refl _ _⟩
  · cases h


/-- THE ONE PURE STATEMENT of pacelinelaw06_PubsubApart. -/
def pacelinelaw06_PubsubApart.Pure : Prop := ∀ (l0 : List (S38)) (a1 : Int), OkAll (ok38) l0 → (Lit.int .u8 a1).wf = true → ∃ k, pacelinelaw06_PubsubApart.f k l0 a1 = some true
end Go.Proofs.Ytbcegghbbhpkbaa.PPubsubApart
