/- Route, at a table of package pubsub: whom a message goes to. -/
import Derived.Test.YtaaaocckfnlgdaaGreatDoorPubA
import Derived.Test.YtaaaocckfnlgdaaGreatDoorWLast
import Derived.Test.YtaaaocckfnlgdaaGreatDoorWMore
namespace Go.Proofs.YtaaaocckfnlgdaaGreatDoorT
open Go.RowKit Go.Proofs.YtaaaocckfnlgdaaGreatDoorW.PrintWords Go.Proofs.YtaaaocckfnlgdaaGreatDoorW.PrintLast Go.Proofs.YtaaaocckfnlgdaaGreatDoorW.PrintMore
set_option maxRecDepth 100000
set_option linter.unusedVariables false
set_option linter.unusedSimpArgs false
theorem info_int : (Tryz.prog.info? 3).map (fun i => (i.zero, i.size, i.bytes)) = some (some (.int .i64 0), 1, 8) := by kernel_rfl
theorem eight {l : List Int} (h : l.length = 8) : ∃ s0 s1 s2 s3 s4 s5 s6 s7, l = [s0, s1, s2, s3, s4, s5, s6, s7] := by
  match l, h with
  | [s0, s1, s2, s3, s4, s5, s6, s7], _ => exact ⟨s0, s1, s2, s3, s4, s5, s6, s7, rfl⟩
theorem idx8 (x0 x1 x2 x3 x4 x5 x6 x7 : Int) (k : Nat) (hk : k < 8) (W : World) :
    (Instr.index 103 (.agg #[.int .u32 x0, .int .u32 x1, .int .u32 x2, .int .u32 x3, .int .u32 x4, .int .u32 x5, .int .u32 x6, .int .u32 x7]) (.int .i64 k)).run Tryz.prog W = .ok (.int .u32 ([x0, x1, x2, x3, x4, x5, x6, x7].getD k 0)) W := by
  match k, hk with
  | 0, _ => rfl
  | 1, _ => rfl
  | 2, _ => rfl
  | 3, _ => rfl
  | 4, _ => rfl
  | 5, _ => rfl
  | 6, _ => rfl
  | 7, _ => rfl
/-- Whom it goes to, of the first k. -/
def routeP (ab ss : List Int) (f c : Int) (k : Nat) : List Int := ((List.range k).map (fun g : Nat => (g : Int))).filter (fun g => decide (g ≠ f) && hearsB ab ss g c)
theorem routeP_step (ab ss : List Int) (f c : Int) (k : Nat) : routeP ab ss f c (k + 1) = routeP ab ss f c k ++ if (decide ((k : Int) ≠ f) && hearsB ab ss k c) = true then [(k : Int)] else [] := by
  unfold routeP
  rw [List.range_succ, List.map_append, List.filter_append]
  congr 1
  simp only [List.map_cons, List.map_nil, List.filter_cons, List.filter_nil]
theorem routeP_len (ab ss : List Int) (f c : Int) (k : Nat) : (routeP ab ss f c k).length ≤ k := by
  unfold routeP
  refine Nat.le_trans (List.length_filter_le _ _) ?_
  simp

set_option maxHeartbeats 1000000 in
theorem route_calls_ok {w : World} {b a m : Nat} {ab ps ss : List Int} (H : Tab w b a m ab ps ss) (F C : Nat) (hF : F < 8) (hC : C < ab.length) (hb : pubsB ab.length ps F C = true) :
    Calls Tryz.prog 25 #[.pointer (some ⟨b, 0, none⟩), .int .i64 F, .int .i64 C] w fun e w' => ∃ v : Value, e = .returned (.tuple #[v, .int .i64 0]) ∧ Kd.R (Kd.int .i64) 3 w' w.heap.size (fun _ => True) v (routeL ab ss F C) ∧ Below w.heap.size w w' := by
  have he := errT_ok (n := ab.length) (f := F) (c := C) (by omega) (by omega)
  have C1 := Aside0.mk (check_calls H F C)
  have C2 := Aside0.mk (publishes_calls H F C)
  rw [he] at C1
  rw [hb] at C2
  have hhe : ∀ k : Nat, k < 8 → hearsB ab ss k C = ((ss.getD k 0).toNat &&& (ab.getD C 0).toNat != 0) := fun k hk => by
    unfold hearsB
    rw [decide_eq_true (errT_ok (by omega) (by omega))]
    rfl
  have hmt : ∀ k : Nat, (bits .and .u32 (ss.getD k 0) (ab.getD C 0) != 0) = ((ss.getD k 0).toNat &&& (ab.getD C 0).toNat != 0) := fun k => bit_meets (u32s_getD H.ws k) (u32s_getD H.wa C)
  have HM := Aside0.mk (fun (k : Nat) (hk : k < 8) => (hmt k).trans (hhe k hk).symm)
  clear hhe hmt
  have h0 := H.c0
  have s0 := H.cs 0 (by omega)
  have s1 := H.cs 1 (by omega)
  have s2 := H.cs 2 (by omega)
  have s3 := H.cs 3 (by omega)
  have s4 := H.cs 4 (by omega)
  have s5 := H.cs 5 (by omega)
  have s6 := H.cs 6 (by omega)
  have s7 := H.cs 7 (by omega)
  have ha := H.ca C hC
  obtain ⟨x0, x1, x2, x3, x4, x5, x6, x7, e8⟩ := eight H.ls
  have E8 := Aside0.mk e8
  have HS := Aside0.mk (show Kd.R (Kd.int .i64) 3 w w.heap.size (fun _ => True) (.slice none 0 0) (routeP ab ss F C 0) from Kd.R_nil (Kd.int .i64) _ _ _ _)
  rw [e8] at s0 s1 s2 s3 s4 s5 s6 s7
  generalize ab.getD C 0 = y at ha HM
  clear H he hb e8
  have hF1 : (F : Int) < 8 := by omega
  have HB := Aside0.mk (Below.refl w.heap.size w)
  have HC8 := Aside0.mk hC
  simp only [List.getD_cons_zero, List.getD_cons_succ, Nat.reduceAdd] at s0 s1 s2 s3 s4 s5 s6 s7
  go_enter Tryz.func25, Tryz.ntmps25
  go_wp2_with (first | (go_at_call 46; refine C1.out.mono ?_; rintro e w' ⟨rfl, rfl⟩) | (go_at_call 47; refine C2.out.mono ?_; rintro e w' ⟨rfl, rfl⟩))
  clear C1 C2
  go_loopw [9, 10, 11, 28] (fun v9 v10 v11 v28 wr => ∃ k : Nat, k ≤ 8 ∧ v28 = .int .i64 k ∧ Aside0 (Kd.R (Kd.int .i64) 3 wr w.heap.size (fun _ => True) v9 (routeP ab ss F C k)) ∧ Aside0 (Below w.heap.size w wr)) (fun _ _ _ i _ => 8 - (intOf i).toNat)
  case atStart => exact ⟨0, by omega, rfl, HS, HB⟩
  case round =>
    clear HS HB
    obtain ⟨k, hk, rfl, HO, HB⟩ := hrel
    have h0' := pw_cell_below HB.out h0
    have ha' := pw_cell_below HB.out ha
    by_cases hlt : k < 8
    · have hidx := idx8 x0 x1 x2 x3 x4 x5 x6 x7 k hlt
      have HMk := Aside0.mk (HM.out k hlt)
      have HL := Aside0.mk (routeP_len ab ss F C k)
      have HP := Aside0.mk (routeP_step ab ss F C k)
      rw [← E8.out] at hidx
      generalize ss.getD k 0 = x at hidx HMk
      generalize hq : hearsB ab ss k C = q at HMk HP
      clear hq
      by_cases hkF : k = F
      · subst hkF
        have HP1 : Aside0 (routeP ab ss k C (k + 1) = routeP ab ss k C k) := ⟨by rw [HP.out]; simp⟩
        clear HP
        go_wp2
        go_roundw
        case rel => exact ⟨k + 1, by omega, by go_num, by rw [HP1.out]; exact HO, HB⟩
        case measure => simp [intOf]; omega
      · cases q with
        | false =>
          have HP1 : Aside0 (routeP ab ss F C (k + 1) = routeP ab ss F C k) := ⟨by rw [HP.out]; simp⟩
          have hq := HMk.out
          clear HP HMk
          go_wp2
          go_roundw
          case rel => exact ⟨k + 1, by omega, by go_num, by rw [HP1.out]; exact HO, HB⟩
          case measure => simp [intOf]; omega
        | true =>
          have HP1 : Aside0 (routeP ab ss F C (k + 1) = routeP ab ss F C k ++ [(k : Int)]) := ⟨by rw [HP.out]; simp [show (k : Int) ≠ (F : Int) by omega]⟩
          have hq := HMk.out
          clear HP HMk
          go_wp2_with ((with_reducible refine gate_builtin (b := .append) (xs := #[.tmp 47, .tmp 49]) rfl ?_); at_builtin; refine Kd.R_append (Kd.int .i64) (w0 := w) w.heap.size rfl (.tmp 47) (.tmp 49) 35 3 (.int .i64 0) 8 rfl Tryz.underlying35 info_int rfl (by decide) (by omega) u9 (routeP ab ss F C k) (k : Int) [.int .i64 k] (fun _ => True) (fun _ => False) rfl rfl ?aP (fun _ hk => hk.elim) ?aF ?aO ?aB ?aS ?aL ?_; (case aP => exact rfl); (case aB => exact HB.out); (case aF => exact (fun _ _ => trivial)); (case aO => exact HO.out); (case aS => exact HB.out.size); (case aL => have := HL.out; omega); intro v1 w1 ho hb hg hat; rw [← HP1.out] at ho; have HO1 := Aside0.mk ho; have HB1 := Aside0.mk hb; clear ho hb hg hat)
          go_roundw
          case rel => exact ⟨k + 1, by omega, by go_num, HO1, HB1⟩
          case measure => simp [intOf]; omega
    · obtain rfl : k = 8 := by omega
      go_wp2
      go_ret2
      exact ⟨_, rfl, HO.out, HB.out⟩
/-- Route: its two answers. -/
def RouteC (w : World) (r : Int) (l : List Int) (e : Ending) (w' : World) : Prop := ∃ v : Value, e = .returned (.tuple #[v, .int .i64 r]) ∧ Kd.R (Kd.int .i64) 3 w' w.heap.size (fun _ => True) v l ∧ Below w.heap.size w w'
set_option maxHeartbeats 1000000 in
theorem route_calls {w : World} {b a m : Nat} {ab ps ss : List Int} (H : Tab w b a m ab ps ss) (f c : Int) :
    Calls Tryz.prog 25 #[.pointer (some ⟨b, 0, none⟩), .int .i64 f, .int .i64 c] w (RouteC w (routeE ab.length ps f c) (if routeE ab.length ps f c = 0 then routeL ab ss f c else [])) := by
  by_cases he : errT ab.length f c = 0
  · by_cases hb : pubsB ab.length ps f c = true
    · have hr : routeE ab.length ps f c = 0 := by unfold routeE; rw [if_pos he, if_pos hb]
      rw [hr, if_pos rfl]
      obtain ⟨F, C, rfl, rfl, hF, hC⟩ := errT_inv he
      exact route_calls_ok H F C hF hC hb
    · have hr : routeE ab.length ps f c = 211 := by unfold routeE; rw [if_pos he, if_neg hb]
      rw [hr, if_neg (by decide)]
      have C1 := Aside0.mk (check_calls H f c)
      have C2 := Aside0.mk (publishes_calls H f c)
      rw [he] at C1
      rw [Bool.eq_false_iff.mpr hb] at C2
      clear H he hb hr
      go_enter Tryz.func25, Tryz.ntmps25
      go_wp2_with (first | (go_at_call 46; refine C1.out.mono ?_; rintro e w' ⟨rfl, rfl⟩) | (go_at_call 47; refine C2.out.mono ?_; rintro e w' ⟨rfl, rfl⟩))
      go_ret2
      exact ⟨_, rfl, Kd.R_nil _ _ _ _ _, Below.refl _ _⟩
  · have hr : routeE ab.length ps f c = errT ab.length f c := by unfold routeE; rw [if_neg he]
    rw [hr, if_neg he]
    have C1 := Aside0.mk (check_calls H f c)
    have e1 : (errT ab.length f c != 0) = true := bne_iff_ne.mpr he
    generalize errT ab.length f c = r at C1 e1
    clear H he hr
    go_enter Tryz.func25, Tryz.ntmps25
    go_wp2_with (go_at_call 46; refine C1.out.mono ?_; rintro e w' ⟨rfl, rfl⟩)
    go_ret2
    exact ⟨_, rfl, Kd.R_nil _ _ _ _ _, Below.refl _ _⟩
end Go.Proofs.YtaaaocckfnlgdaaGreatDoorT
