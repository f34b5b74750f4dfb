-- Written by gp.py (this project's driver over the kit's print) out of the translation and wip/given; Lean checks it.
import Derived.Test.YtccidadepjcjjaaPTableTurnedx0
import Derived.Test.YtccidadepjcjjaaPTableTurnedx2
import Derived.Test.YtccidadepjcjjaaPTableTurnedx3
import Derived.Test.YtccidadepjcjjaaPTableTurnedx5
namespace Go.Proofs.Ytccidadepjcjjaa.PTableTurned
open Go.RowKit Go.Proofs.YtccidadepjcjjaaR Go.Proofs.YtccidadepjcjjaaW.PrintWords Go.Proofs.YtccidadepjcjjaaW.PrintLast Go.Proofs.YtccidadepjcjjaaW.PrintMore
attribute [local go_sem] max2_int min2_int max_two min_two max_three min_three max_four min_four   -- for this text's walks alone
set_option linter.unusedVariables false
set_option linter.unusedSimpArgs false

/-! ### pacelinelaw07_TableTurned: function 8 (by hand) -/
/-- Elements as they lay in the world w0. -/
def frozen {α : Type} (d : Kd α) (w0 : World) : Kd α where
  sz := d.sz
  E := []
  K := fun _ x cs => d.K w0 x cs
  M := fun _ _ _ x cs => d.K w0 x cs
  K_len := d.K_len
  K_one := d.K_one
  K_below := fun _ h => h
  K_of_M := fun h => h
  M_mono := fun _ h => h
  M_bound := fun h => h
  M_move := fun _ h => h
  M_lower := fun _ h => h
theorem thaw {α : Type} {d : Kd α} {w0 w : World} {A : Option Addr} {n : Nat} {xs : List α} (h : (frozen d w0).C w A n xs) (hb : Below w0.heap.size w0 w) : d.C w A n xs :=
  ReadsRow.imp_ h (Below.refl _ _) (fun _ _ hp => d.K_below hb hp)
theorem table_Turned_cells {α : Type} {d : Kd α} {w : World} {A : Option Addr} {l : List α} (h : d.C w A l.length l) {k : Nat} {x : α} (hx : l[k]? = some x) :
    ∃ ad c, A = some ad ∧ c.length = d.sz ∧ d.K w x c ∧ ∀ i u, c[i]? = some u → w.cell? (ad.add (k * d.sz + i)) = some u := by
  obtain ⟨hk, _⟩ := List.getElem?_eq_some_iff.1 hx
  obtain ⟨ad, rfl, hc⟩ := h.2.2 (by omega)
  obtain ⟨c, h1, h2, h3⟩ := hc k x hx
  exact ⟨ad, c, rfl, h1, h2, h3⟩
def pacelinelaw07_TableTurned.P (k : Nat) (l0 : List S49) (s c : Int) : Prop := pacelinelaw07_heavy.f k l0 = some true ∨ (pacelinelaw07_heavy.f k l0 = some false ∧ l0.length ≤ 60 ∧ ∃ (e n m t : Int) (p q y : List S23), table_Check.f l0 = some e ∧ pacelineref07_Check.f k l0 = some e ∧ table_Check.f l0.reverse = some e ∧ table_Step.f l0 s c = some (n, p) ∧ table_Step.f l0.reverse s c = some (m, q) ∧ pacelineref07_Step.f k l0 s c = some (n, y) ∧ (e = 0 → n = m ∧ pacelineref07_Same.f k p q = some true) ∧ table_Find.f l0 (-1) 0 = some t ∧ pacelineref07_Find.f k l0 (-1) 0 = some t)
open Classical in
noncomputable def pacelinelaw07_TableTurned.f (k : Nat) (l0 : List S49) (a1 a2 : Int) : Option Bool := if pacelinelaw07_TableTurned.P k l0 (Int.tmod (wrap64 a1) 8) (Int.tmod (wrap64 a2) 16) then some true else none
set_option maxRecDepth 100000 in
set_option maxHeartbeats 4000000 in
theorem pacelinelaw07_TableTurned.calls (k : Nat) (A0 : Option Addr) (c0 : Nat) (l0 : List S49) (a1 a2 : Int) (r : Bool) (w : World) (hr0 : Kd.C k49 w A0 l0.length l0) (hc0 : l0.length ≤ c0) (h : pacelinelaw07_TableTurned.f k l0 a1 a2 = some r) :
    Calls Try.prog 8 #[.slice A0 l0.length c0, .int .u8 a1, .int .u8 a2] w fun e w' => e = .returned (.bool r) ∧ Below w.heap.size w w' := by
  unfold pacelinelaw07_TableTurned.f at h
  split at h
  · rename_i hP
    obtain rfl := Option.some.inj h
    clear h
    have HR := Aside0.mk hr0
    have HC0 := Aside0.mk hc0
    clear hr0 hc0
    rcases hP with hv | ⟨hv, hlen, e, n, m, t, p, q, y, E1, E2, E3, E4, E5, E6, E7, E8, E9⟩
    · have CH := Aside0.mk (fun W hW => pacelinelaw07_heavy.calls k A0 c0 l0 true W (Kd.C_below HR.out hW) HC0.out hv)
      clear hv
      go_enter Try.func8, Try.ntmps8
      go_wp2_with (go_at_call 11; refine (CH.out _ (Below.refl _ _)).mono ?_; rintro e w' ⟨rfl, ⟨nd, rfl⟩⟩)
      go_ret
      exact ⟨rfl, (Drawn0.mk ⟨nd, rfl⟩).below⟩
    · have CH := Aside0.mk (fun W hW => pacelinelaw07_heavy.calls k A0 c0 l0 false W (Kd.C_below HR.out hW) HC0.out hv)
      have C1 := Aside0.mk (fun W hW => table_Check.calls A0 c0 l0 e W (Kd.C_below HR.out hW) HC0.out E1)
      have C2 := Aside0.mk (fun W hW => pacelineref07_Check.calls k A0 c0 l0 e W (Kd.C_below HR.out hW) HC0.out E2)
      have C3 := Aside0.mk (fun A c W (hr : Kd.C k49 W A l0.length l0.reverse) (hc : l0.length ≤ c) => by
        have h := table_Check.calls A c l0.reverse e W (by rw [List.length_reverse]; exact hr) (by rw [List.length_reverse]; exact hc) E3
        rw [List.length_reverse] at h
        exact h)
      have C4 := Aside0.mk (fun W hW => table_Step.calls A0 c0 l0 _ _ n p W (Kd.C_below HR.out hW) HC0.out E4)
      have C5 := Aside0.mk (fun A c W (hr : Kd.C k49 W A l0.length l0.reverse) (hc : l0.length ≤ c) => by
        have h := table_Step.calls A c l0.reverse _ _ m q W (by rw [List.length_reverse]; exact hr) (by rw [List.length_reverse]; exact hc) E5
        rw [List.length_reverse] at h
        exact h)
      have C6 := Aside0.mk (fun W hW => pacelineref07_Step.calls k A0 c0 l0 _ _ n y W (Kd.C_below HR.out hW) HC0.out E6)
      have C8 := Aside0.mk (fun W hW => table_Find.calls A0 c0 l0 _ _ t W (Kd.C_below HR.out hW) HC0.out E8)
      have C9 := Aside0.mk (fun W hW => pacelineref07_Find.calls k A0 c0 l0 _ _ t W (Kd.C_below HR.out hW) HC0.out E9)
      have H7 := Aside0.mk E7
      have HL := Aside0.mk hlen
      clear hv E1 E2 E3 E4 E5 E6 E7 E8 E9 hlen
      go_enter Try.func8, Try.ntmps8
      go_upto_region 4 with (first
        | (go_at_call 11; refine (CH.out _ (Below.refl _ _)).mono ?_; rintro e w' ⟨rfl, ⟨nd, rfl⟩⟩)
        | ((with_reducible refine gate_dst (N := 20) rfl ?_); refine Kd.R_lit (frozen k49 w) w.heap.size 49 ?hg (N := 20) ?hd (xs := ([] : List (S49))) (inner := []) (ok := fun _ => True) (okp := fun _ => True) ?hr ?hp (fun _ hk => hk) trivial ((Drawn0.mk ⟨nd, rfl⟩).below) (by simp) (by simp) ?_; (case hd => rfl); (case hg => rfl); (case hr => first | (go_simp; done) | (go_simp; rfl)); (case hp => exact (Reps.none _ _)); intro v1 w1 ho1 hb1 hg_ hnew_; clear hg_ hnew_; have HO := Aside0.mk ho1; have HB := Aside0.mk hb1; clear ho1 hb1))
      go_wp2
      go_loopg [7, 8] l0.length (fun gg s7 s8 wr => ∃ (kk : Nat) (i : Int), i = (kk : Int) - 1 ∧ kk ≤ l0.length ∧ kk ≤ gg ∧ s8 = .int .i64 i ∧ Aside0 ((frozen k49 w).R 49 wr w.heap.size (fun _ => True) s7 (l0.drop kk).reverse) ∧ Aside0 (Below w.heap.size w wr))
      case atStart =>
        have h60 := HL.out
        refine ⟨l0.length, wrap64 ((l0.length : Int) - 1), wrap64_id (by omega) (by omega), Nat.le_refl _, Nat.le_refl _, rfl, ⟨?_⟩, HB⟩
        rw [List.drop_length]
        exact HO.out
      case round =>
        obtain ⟨kk, i, hi, hkk, hg, rfl, HO, BW⟩ := hrel
        by_cases hlt : 0 ≤ i
        · obtain ⟨j, rfl⟩ : ∃ j : Nat, i = (j : Int) := ⟨i.toNat, by omega⟩
          obtain rfl : kk = j + 1 := by omega
          clear hi
          have hj60 : (j : Int) < 60 := by have := HL.out; omega
          have hjl : (j : Int) < (l0.length : Int) := by omega
          obtain ⟨x, hx⟩ : ∃ x, l0[j]? = some x := ⟨_, List.getElem?_eq_getElem (by omega)⟩
          obtain ⟨ad, cs, rfl, hcl, hK, hcell⟩ := table_Turned_cells HR.out hx
          have hK0 := Aside0.mk hK
          obtain ⟨A3, c3, rfl, l3, g3⟩ := k49_open hK
          have q0 : w.cell? (ad.add (j * 4)) = some (.int .i64 x.f0) := by exact hcell 0 _ rfl
          have q1 : w.cell? ⟨(ad.add (j * 4)).block, (ad.add (j * 4)).off + 1, none⟩ = some (.int .i64 x.f1) := by have := hcell 1 _ rfl; rwa [add_field _ _ 1 (by omega)] at this
          have q2 : w.cell? ⟨(ad.add (j * 4)).block, (ad.add (j * 4)).off + 2, none⟩ = some (.int .i64 x.f2) := by have := hcell 2 _ rfl; rwa [add_field _ _ 2 (by omega)] at this
          have q3 : w.cell? ⟨(ad.add (j * 4)).block, (ad.add (j * 4)).off + 3, none⟩ = some (.slice A3 x.f3.length c3) := by have := hcell 3 _ rfl; rwa [add_field _ _ 3 (by omega)] at this
          replace q0 := pw_cell_below BW.out q0
          replace q1 := pw_cell_below BW.out q1
          replace q2 := pw_cell_below BW.out q2
          replace q3 := pw_cell_below BW.out q3
          have HE : Aside0 ((l0.drop (j + 1)).reverse ++ [x] = (l0.drop j).reverse) := ⟨by
            obtain ⟨hk, rfl⟩ := List.getElem?_eq_some_iff.1 hx
            rw [List.drop_eq_getElem_cons hk, List.reverse_cons]⟩
          have HD : Aside0 ((l0.drop (j + 1)).length + 1 ≤ 60) := ⟨by have := HL.out; rw [List.length_drop]; omega⟩
          clear hcell hK hcl hx g3 l3
          go_wp2_with (first
            | ((with_reducible refine gate_dst (N := 33) rfl ?_); refine Kd.R_lit (frozen k49 w) w.heap.size 49 ?hg (N := 33) ?hd (xs := [x]) (inner := [.int .i64 x.f0, .int .i64 x.f1, .int .i64 x.f2, .slice A3 x.f3.length c3]) (ok := fun _ => True) (okp := fun _ => True) ?hr ?hp (fun _ hk => hk) trivial BW.out BW.out.size (by simp) ?_; (case hd => rfl); (case hg => rfl); (case hr => first | (go_simp; done) | (go_simp; rfl)); (case hp => exact ((Reps.none _ _).snoc hK0.out rfl)); intro v1 w1 ho1 hb1 hg1 hat1; obtain ⟨A1, c1, rfl, _, hC1⟩ := Kd.R_reads ho1; have HO1 := Aside0.mk hC1; have HB1 := Aside0.mk hb1; have HM1 := Aside0.mk (Kd.R_grown HO.out hg1 (fun _ _ => by simp)); clear ho1 hb1 hg1 hat1 hC1)
            | ((with_reducible refine gate_builtin (b := .append) (xs := #[.tmp 28, .tmp 33]) rfl ?_); at_builtin; go_loud (refine Kd.R_append_rows (frozen k49 w) (w0 := w) w.heap.size rfl (.tmp 28) (.tmp 33) 34 49 (.agg #[.int .i64 0, .int .i64 0, .int .i64 0, .slice none 0 0]) 48 rfl Try.underlying34 info49 rfl (show 0 < 4 by decide) (by omega) _ (l0.drop (j + 1)).reverse [x] _ _ _ (fun _ => True) (fun _ => False) rfl rfl ?aO ?aR (fun _ _ h => h) (fun _ h => h.elim) ?aF ?aB ?aS ?aL ?_; (case aO => exact HM1.out); (case aR => exact HO1.out); (case aF => exact fun _ _ => trivial); (case aB => exact HB1.out); (case aS => exact HB1.out.size); (case aL => have := HD.out; simp at this ⊢; omega); intro v2 w2 ho2 hb2 hg2 hat2; have HO2 := Aside0.mk ho2; have HB2 := Aside0.mk hb2; clear ho2 hb2 hg2 hat2)))
          go_roundg j
          case measure => omega
          case rel =>
            refine ⟨j, (j : Int) - 1, rfl, by omega, by omega, by go_num, ⟨?_⟩, HB2⟩
            rw [← HE.out]
            exact HO2.out
        · obtain rfl : kk = 0 := by omega
          have hHO := (show (frozen k49 w).R 49 wr w.heap.size (fun _ => True) _ l0.reverse from HO.out)
          obtain ⟨Ab, cb, rfl⟩ := Kd.R_slice hHO
          have hbk := thaw (Kd.R_reads' hHO).2.2 BW.out
          have hcb := (Kd.R_reads' hHO).2.1
          rw [List.length_reverse] at hbk hcb
          have HBK := Aside0.mk hbk
          have HCB := Aside0.mk hcb
          clear hHO HO hbk hcb
          by_cases he : e = 0
          · subst he
            obtain ⟨rfl, h7⟩ := H7.out rfl
            have C7 := Aside0.mk (fun A B c d W hr0 hc0 hr1 hc1 => pacelineref07_Same.calls k A c p B d q true W hr0 hc0 hr1 hc1 h7)
            clear h7 H7
            go_wp2_with (first
              | (go_at_call 17; (with_reducible refine (C1.out _ BW.out).mono ?_); rintro _ w1 ⟨rfl, hb1⟩; have B1 := Aside0.mk (below_step BW.out hb1); have D1 := Aside0.mk hb1; clear hb1)
              | (go_at_call 18; (with_reducible refine (C2.out _ B1.out).mono ?_); rintro _ w2 ⟨rfl, hb2⟩; have B2 := Aside0.mk (below_step B1.out hb2); have D2 := Aside0.mk (below_step D1.out hb2); clear hb2)
              | (go_at_call 17; (with_reducible refine (C3.out _ _ _ (Kd.C_below HBK.out D2.out) HCB.out).mono ?_); rintro _ w3 ⟨rfl, hb3⟩; have B3 := Aside0.mk (below_step B2.out hb3); have D3 := Aside0.mk (below_step D2.out hb3); clear hb3)
              | (go_at_call 15; (with_reducible refine (C4.out _ B3.out).mono ?_); rintro _ w4 ⟨v4, rfl, ho4, hb4⟩; have B4 := Aside0.mk (below_step B3.out hb4); have D4 := Aside0.mk (below_step D3.out hb4); obtain ⟨A4, c4, rfl⟩ := Kd.R_slice ho4; have O4 := Aside0.mk (Kd.R_reads' ho4); clear hb4 ho4)
              | (go_at_call 15; (with_reducible refine (C5.out _ _ _ (Kd.C_below HBK.out D4.out) HCB.out).mono ?_); rintro _ w5 ⟨v5, rfl, ho5, hb5⟩; have B5 := Aside0.mk (below_step B4.out hb5); have F5 := Aside0.mk hb5; obtain ⟨A5, c5, rfl⟩ := Kd.R_slice ho5; have O5 := Aside0.mk (Kd.R_reads' ho5); clear hb5 ho5)
              | (go_at_call 16; (with_reducible refine (C6.out _ B5.out).mono ?_); rintro _ w6 ⟨v6, rfl, ho6, hb6⟩; have B6 := Aside0.mk (below_step B5.out hb6); have F6 := Aside0.mk (below_step F5.out hb6); have G6 := Aside0.mk hb6; clear hb6 ho6)
              | (go_at_call 14; (with_reducible refine (C7.out _ _ _ _ _ (Kd.C_below O4.out.2.2 F6.out) O4.out.2.1 (Kd.C_below O5.out.2.2 G6.out) O5.out.2.1).mono ?_); rintro _ w7 ⟨rfl, hb7⟩; have B7 := Aside0.mk (below_step B6.out hb7.below); clear hb7)
              | (go_at_call 19; (with_reducible refine (C8.out _ B7.out).mono ?_); rintro _ w8 ⟨rfl, hb8⟩; have B8 := Aside0.mk (below_step B7.out hb8); clear hb8)
              | (go_at_call 20; (with_reducible refine (C9.out _ B8.out).mono ?_); rintro _ w9 ⟨rfl, hb9⟩; have B9 := Aside0.mk (below_step B8.out hb9.below); clear hb9))
            go_ret
            exact ⟨rfl, B9.out⟩
          · clear H7
            go_wp2_with (first
              | (go_at_call 17; (with_reducible refine (C1.out _ BW.out).mono ?_); rintro _ w1 ⟨rfl, hb1⟩; have B1 := Aside0.mk (below_step BW.out hb1); have D1 := Aside0.mk hb1; clear hb1)
              | (go_at_call 18; (with_reducible refine (C2.out _ B1.out).mono ?_); rintro _ w2 ⟨rfl, hb2⟩; have B2 := Aside0.mk (below_step B1.out hb2); have D2 := Aside0.mk (below_step D1.out hb2); clear hb2)
              | (go_at_call 17; (with_reducible refine (C3.out _ _ _ (Kd.C_below HBK.out D2.out) HCB.out).mono ?_); rintro _ w3 ⟨rfl, hb3⟩; have B3 := Aside0.mk (below_step B2.out hb3); have D3 := Aside0.mk (below_step D2.out hb3); clear hb3)
              | (go_at_call 15; (with_reducible refine (C4.out _ B3.out).mono ?_); rintro _ w4 ⟨v4, rfl, ho4, hb4⟩; have B4 := Aside0.mk (below_step B3.out hb4); have D4 := Aside0.mk (below_step D3.out hb4); obtain ⟨A4, c4, rfl⟩ := Kd.R_slice ho4; have O4 := Aside0.mk (Kd.R_reads' ho4); clear hb4 ho4)
              | (go_at_call 15; (with_reducible refine (C5.out _ _ _ (Kd.C_below HBK.out D4.out) HCB.out).mono ?_); rintro _ w5 ⟨v5, rfl, ho5, hb5⟩; have B5 := Aside0.mk (below_step B4.out hb5); have F5 := Aside0.mk hb5; obtain ⟨A5, c5, rfl⟩ := Kd.R_slice ho5; have O5 := Aside0.mk (Kd.R_reads' ho5); clear hb5 ho5)
              | (go_at_call 16; (with_reducible refine (C6.out _ B5.out).mono ?_); rintro _ w6 ⟨v6, rfl, ho6, hb6⟩; have B6 := Aside0.mk (below_step B5.out hb6); have F6 := Aside0.mk (below_step F5.out hb6); have G6 := Aside0.mk hb6; clear hb6 ho6)
              | (go_at_call 19; (with_reducible refine (C8.out _ B6.out).mono ?_); rintro _ w8 ⟨rfl, hb8⟩; have B8 := Aside0.mk (below_step B6.out hb8); clear hb8)
              | (go_at_call 20; (with_reducible refine (C9.out _ B8.out).mono ?_); rintro _ w9 ⟨rfl, hb9⟩; have B9 := Aside0.mk (below_step B8.out hb9.below); clear hb9))
            go_ret
            exact ⟨rfl, B9.out⟩
  · cases h


/-- THE ONE PURE STATEMENT of pacelinelaw07_TableTurned. -/
def pacelinelaw07_TableTurned.Pure : Prop := ∀ (l0 : List (S49)) (a1 : Int) (a2 : Int), OkAll (ok49) l0 → (Lit.int .u8 a1).wf = true → (Lit.int .u8 a2).wf = true → ∃ k, pacelinelaw07_TableTurned.f k l0 a1 a2 = some true
end Go.Proofs.Ytccidadepjcjjaa.PTableTurned
