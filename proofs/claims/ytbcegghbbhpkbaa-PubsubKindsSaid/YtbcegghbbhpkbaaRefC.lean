/- Hears, Route, New of the document's own table. -/
import Derived.Test.YtbcegghbbhpkbaaRefB
namespace Go.Proofs.YtbcegghbbhpkbaaT
open Go.RowKit Go.Proofs.YtbcegghbbhpkbaaW.PrintWords Go.Proofs.YtbcegghbbhpkbaaW.PrintLast Go.Proofs.YtbcegghbbhpkbaaW.PrintMore Go.Proofs.YtbcegghbbhpkbaaU Go.Proofs.Ytbcegghbbhpkbaa.PBase Go.Proofs.YtbcegghbbhpkbaaH
set_option linter.unusedVariables false
set_option linter.unusedSimpArgs false

def rhearB (ps : List Int) (Ls : List (List Int)) (f c : Int) : Bool := decide (errT ps.length f c = 0) && (upL ps c).any (fun a => decide (a ∈ Ls.getD f.toNat []))
theorem any_take_step {p : Int → Bool} {L : List Int} {i : Nat} (hi : i < L.length) (h : (L.take i).any p = false) (hx : p (rd L i) = false) : (L.take (i + 1)).any p = false := by
  rw [List.take_succ_eq_append_getElem hi, List.any_append, h]
  have : L[i] = rd L i := by unfold rd; rw [Int.toNat_natCast, List.getD_eq_getElem?_getD, List.getElem?_eq_getElem hi]; rfl
  simp [this, hx]
theorem any_hit {p : Int → Bool} {L : List Int} {i : Nat} (hi : i < L.length) (hx : p (rd L i) = true) : L.any p = true := by
  have : L[i] = rd L i := by unfold rd; rw [Int.toNat_natCast, List.getD_eq_getElem?_getD, List.getElem?_eq_getElem hi]; rfl
  exact List.any_eq_true.mpr ⟨L[i], List.getElem_mem hi, by rw [this]; exact hx⟩
set_option maxHeartbeats 4000000 in
theorem rhears_calls {V : Nat → Prop} {w : World} {b g h : Nat} {ps : List Int} {Lp Ls : List (List Int)} (H : RTab V w b g h ps Lp Ls) (hb : ∀ l ∈ Ls, l.length ≤ 1000) (f c : Int) :
    Calls Try.prog 13 #[.pointer (some ⟨b, 0, none⟩), .int .i64 f, .int .i64 c] w fun e w' => e = .returned (.bool (rhearB ps Ls f c)) ∧ Below w.heap.size w w' := by
  have C1 := Aside0.mk (rcheck_calls H f c)
  by_cases he : errT ps.length f c = 0
  · obtain ⟨F, C, rfl, rfl, hF, hC⟩ := errT_inv he
    have hB : rhearB ps Ls (F : Int) (C : Int) = (upL ps C).any (fun a => decide (a ∈ Ls.getD F [])) := by
      unfold rhearB
      rw [decide_eq_true he]
      rfl
    rw [hB]
    rw [he] at C1
    obtain ⟨A, c0, q0, q1, q2⟩ := H.cs hF
    obtain ⟨A2, c2, r0, r1, r2⟩ := H.c0
    have q3 := H.c2
    have hlen : (Ls.getD F []).length ≤ 1000 := by
      rw [List.getD_eq_getElem?_getD, List.getElem?_eq_getElem (by have := H.ls; omega)]
      exact hb _ (List.getElem_mem _)
    have hF1 : (F : Int) < 8 := by omega
    generalize Ls.getD F [] = l at q0 q1 q2 hlen ⊢
    have CS := Aside0.mk (fun W (hW : Below w.heap.size w W) x => pacelineref05_Has.calls _ A c0 l x _ W (Kd.C_below q2 hW) q1 (rhas l x (by omega) (l.length + 1) (by omega)))
    have CA := Aside0.mk (pacelineref05_Above.calls 20 A2 c2 ps (C : Int) _ w r2 r1 (rabove ps C 20 (by omega)))
    have HLL := upL_length ps C
    generalize upL ps (C : Int) = L at CA HLL ⊢
    clear he H hC hb hlen q1 q2 hB r1 r2
    go_enter Try.func13, Try.ntmps13
    go_wp2_with (first | (go_at_call 28; refine C1.out.mono ?_; rintro e w' ⟨rfl, rfl⟩) | (go_at_call 30; refine CA.out.mono ?_; rintro e w1 ⟨v, rfl, ho, hd⟩; obtain ⟨A1, c1, rfl⟩ := Kd.R_slice ho; have HO := Aside0.mk (Kd.R_reads' ho); have HD := Aside0.mk hd; clear hd ho))
    go_loopw [8] (fun v8 wr => ∃ i : Nat, i ≤ L.length ∧ v8 = .int .i64 i ∧ Aside0 ((L.take i).any (fun a => decide (a ∈ l)) = false) ∧ Aside0 (Below w1.heap.size w1 wr)) (fun i _ => L.length - (intOf i).toNat)
    case atStart => exact ⟨0, by omega, rfl, ⟨by simp⟩, ⟨Below.refl _ _⟩⟩
    case round =>
      obtain ⟨i, hi, rfl, HN, HB⟩ := hrel
      by_cases hlt : i < L.length
      · have hlt1 : (i : Int) < (L.length : Int) := by omega
        have HW := Aside0.mk (below_step HD.out HB.out)
        have q0' := pw_cell_below HW.out q0
        have q3' := pw_cell_below HW.out q3
        obtain ⟨ad, rfl, hcell⟩ := Kd.at_int HO.out.2.2 (i : Int) (by omega) hlt1
        rw [Int.toNat_natCast] at hcell
        replace hcell := pw_cell_below HB.out hcell
        have HS := Aside0.mk (any_take_step hlt HN.out)
        have HT := Aside0.mk (any_hit (p := fun a => decide (a ∈ l)) hlt)
        have CX := Aside0.mk (fun W (hW : Below w.heap.size w W) => CS.out W hW (rd L i))
        generalize rd L (i : Int) = x at hcell HS HT CX
        cases hq : decide (x ∈ l) with
        | true =>
          rw [hq] at CX
          have HT' := Aside0.mk (HT.out hq)
          clear HS HT hq
          go_wp2
          go_quiet ((go_at_call 31; exact Calls.quiet_of ((CX.out _ (pw_below_drewN HW.out _)).mono fun e w' ⟨h1, h2⟩ => ⟨h1, h2.out⟩)))
          go_wp2
          go_ret
          exact ⟨by rw [HT'.out]; rfl, pw_below_drewN HW.out _⟩
        | false =>
          rw [hq] at CX
          have HS' := Aside0.mk (HS.out hq)
          clear HS HT hq
          go_wp2
          go_quiet ((go_at_call 31; exact Calls.quiet_of ((CX.out _ (pw_below_drewN HW.out _)).mono fun e w' ⟨h1, h2⟩ => ⟨h1, h2.out⟩)))
          go_wp2
          go_roundw
          case rel => exact ⟨i + 1, by omega, by go_num, HS', ⟨pw_below_drewN HB.out _⟩⟩
          case measure => simp [intOf]; omega
      · obtain rfl : i = L.length := by omega
        have HN' := Aside0.mk (show L.any (fun a => decide (a ∈ l)) = false by have := HN.out; rwa [List.take_length] at this)
        clear HN
        go_wp2
        go_ret
        exact ⟨by rw [HN'.out]; rfl, below_step HD.out HB.out⟩
  · have e1 : (errT ps.length f c != 0) = true := bne_iff_ne.mpr he
    have hB : rhearB ps Ls f c = false := by
      unfold rhearB
      rw [decide_eq_false he]
      rfl
    rw [hB]
    generalize errT ps.length f c = r at C1 e1
    clear H he hB
    go_enter Try.func13, Try.ntmps13
    go_wp2_with (go_at_call 28; refine C1.out.mono ?_; rintro e w' ⟨rfl, rfl⟩)
    go_ret
    exact ⟨rfl, Below.refl _ _⟩

def rrouteP (ps : List Int) (Ls : List (List Int)) (f c : Int) (k : Nat) : List Int := ((List.range k).map (fun g : Nat => (g : Int))).filter (fun g => decide (g ≠ f) && rhearB ps Ls g c)
def rrouteL (ps : List Int) (Ls : List (List Int)) (f c : Int) : List Int := rrouteP ps Ls f c 8
def rrouteE (n : Nat) (Lp : List (List Int)) (f c : Int) : Int := if errT n f c = 0 then if rpubB n Lp f c = true then 0 else 211 else errT n f c
theorem rrouteP_step (ps : List Int) (Ls : List (List Int)) (f c : Int) (k : Nat) : rrouteP ps Ls f c (k + 1) = rrouteP ps Ls f c k ++ if (decide ((k : Int) ≠ f) && rhearB ps Ls k c) = true then [(k : Int)] else [] := by
  unfold rrouteP
  rw [List.range_succ, List.map_append, List.filter_append]
  congr 1
  simp only [List.map_cons, List.map_nil, List.filter_cons, List.filter_nil]
theorem rrouteP_len (ps : List Int) (Ls : List (List Int)) (f c : Int) (k : Nat) : (rrouteP ps Ls f c k).length ≤ k := by
  unfold rrouteP
  refine Nat.le_trans (List.length_filter_le _ _) ?_
  simp
set_option maxHeartbeats 4000000 in
theorem rroute_calls_ok {V : Nat → Prop} {w : World} {b g h : Nat} {ps : List Int} {Lp Ls : List (List Int)} (H : RTab V w b g h ps Lp Ls) (hbp : ∀ l ∈ Lp, l.length ≤ 1000) (hb : ∀ l ∈ Ls, l.length ≤ 1000) (F C : Nat) (hF : F < 8) (hC : C < ps.length) (hp : rpubB ps.length Lp F C = true) :
    Calls Try.prog 21 #[.pointer (some ⟨b, 0, none⟩), .int .i64 F, .int .i64 C] w (RouteC w 0 (rrouteL ps Ls F C)) := by
  have C1 := Aside0.mk (rcheck_calls H F C)
  have C2 := Aside0.mk (rpublishes_calls H hbp F C)
  rw [errT_ok (by omega) (by omega)] at C1
  rw [hp] at C2
  have CH := Aside0.mk (fun W (hW : Below w.heap.size w W) (k : Nat) => rhears_calls (H.below hW) hb k C)
  have hF1 : (F : Int) < 8 := by omega
  clear H hbp hb hC hp
  go_enter Try.func21, Try.ntmps21
  go_wp2_with (first | (go_at_call 28; refine C1.out.mono ?_; rintro e w' ⟨rfl, rfl⟩) | (go_at_call 23; refine C2.out.mono ?_; rintro e w1 ⟨rfl, hd⟩; have HB1 := Aside0.mk hd; clear hd) | ((with_reducible refine gate_dst (N := 23) rfl ?_); refine Kd.R_lit (Kd.int .i64) w.heap.size 3 ?hg (N := 23) ?hd (xs := ([] : List Int)) (inner := []) (ok := fun _ => True) (okp := fun _ => True) ?hr ?hp (fun _ hk => hk) trivial HB1.out HB1.out.size (by simp) ?_; (case hd => rfl); (case hg => rfl); (case hr => first | (go_simp; done) | (go_simp; rfl)); (case hp => exact (Reps.none _ _)); intro v2 w2 ho2 hb2 hg_ hnew_; clear hg_ hnew_; have HO := Aside0.mk ho2; have HB := Aside0.mk hb2; clear ho2 hb2))
  clear C1 C2
  have HE : Aside0 (rrouteP ps Ls F C 0 = []) := ⟨rfl⟩
  rw [← HE.out] at HO
  go_loopw [9, 10] (fun v9 v10 wr => ∃ k : Nat, k ≤ 8 ∧ v10 = .int .i64 k ∧ Aside0 (Kd.R (Kd.int .i64) 3 wr w.heap.size (fun _ => True) v9 (rrouteP ps Ls F C k)) ∧ Aside0 (Below w.heap.size w wr)) (fun _ i _ => 8 - (intOf i).toNat)
  case atStart => exact ⟨0, by omega, rfl, HO, HB⟩
  case round =>
    clear HO HB HB1
    obtain ⟨k, hk, rfl, HO, HB⟩ := hrel
    by_cases hlt : k < 8
    · have HL := Aside0.mk (rrouteP_len ps Ls F C k)
      have HP := Aside0.mk (rrouteP_step ps Ls F C k)
      have CK := Aside0.mk (CH.out _ HB.out k)
      generalize rhearB ps Ls k C = q at HP CK
      by_cases hkF : k = F
      · subst hkF
        have HP1 : Aside0 (rrouteP ps Ls k C (k + 1) = rrouteP ps Ls k C k) := ⟨by rw [HP.out]; simp⟩
        clear HP
        go_wp2
        go_roundw
        case rel => exact ⟨k + 1, by omega, by go_num, by rw [HP1.out]; exact HO, HB⟩
        case measure => simp [intOf]; omega
      · cases q with
        | false =>
          have HP1 : Aside0 (rrouteP ps Ls F C (k + 1) = rrouteP ps Ls F C k) := ⟨by rw [HP.out]; simp⟩
          clear HP
          go_wp2_with (go_at_call 13; refine CK.out.mono ?_; rintro e w1 ⟨rfl, hd⟩; have HO1 := Aside0.mk (Kd.R_step HO.out (fun b _ hlt => hd.block b hlt)); have HB1 := Aside0.mk (below_step HB.out hd); clear hd)
          go_roundw
          case rel => exact ⟨k + 1, by omega, by go_num, by rw [HP1.out]; exact HO1, HB1⟩
          case measure => simp [intOf]; omega
        | true =>
          have HP1 : Aside0 (rrouteP ps Ls F C (k + 1) = rrouteP ps Ls F C k ++ [(k : Int)]) := ⟨by rw [HP.out]; simp [show (k : Int) ≠ (F : Int) by omega]⟩
          clear HP
          go_wp2_with (first | (go_at_call 13; refine CK.out.mono ?_; rintro e w1 ⟨rfl, hd⟩; have HO1 := Aside0.mk (Kd.R_step HO.out (fun b _ hlt => hd.block b hlt)); have HB1 := Aside0.mk (below_step HB.out hd); clear hd) | ((with_reducible refine gate_builtin (b := .append) (xs := #[.tmp 37, .tmp 39]) rfl ?_); at_builtin; refine Kd.R_append (Kd.int .i64) (w0 := w) w.heap.size rfl (.tmp 37) (.tmp 39) 23 3 (.int .i64 0) 8 rfl Try.underlying23 info_int rfl (by decide) (by omega) u9 (rrouteP ps Ls F C k) (k : Int) [.int .i64 k] (fun _ => True) (fun _ => False) rfl rfl ?aP (fun _ hk => hk.elim) ?aF ?aO ?aB ?aS ?aL ?_; (case aP => exact rfl); (case aB => exact HB1.out); (case aF => exact (fun _ _ => trivial)); (case aO => exact HO1.out); (case aS => exact HB1.out.size); (case aL => have := HL.out; omega); intro v3 w3 ho hb hg hat; rw [← HP1.out] at ho; have HO3 := Aside0.mk ho; have HB3 := Aside0.mk hb; clear ho hb hg hat))
          go_roundw
          case rel => exact ⟨k + 1, by omega, by go_num, HO3, HB3⟩
          case measure => simp [intOf]; omega
    · obtain rfl : k = 8 := by omega
      go_wp2
      go_ret2
      exact ⟨_, rfl, HO.out, HB.out⟩
end Go.Proofs.YtbcegghbbhpkbaaT
