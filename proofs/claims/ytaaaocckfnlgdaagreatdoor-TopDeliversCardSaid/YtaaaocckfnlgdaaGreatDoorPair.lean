/- Two federates that regulate and are constrained. -/
import Derived.Test.YtaaaocckfnlgdaaGreatDoorRtiC
import Derived.Test.YtaaaocckfnlgdaaGreatDoorRtiD
import Derived.Test.YtaaaocckfnlgdaaGreatDoorRtiE
import Derived.Test.YtaaaocckfnlgdaaGreatDoorTopP
namespace Go.Proofs.YtaaaocckfnlgdaaGreatDoorT
open Go.RowKit Go.Proofs.YtaaaocckfnlgdaaGreatDoorW.PrintWords Go.Proofs.YtaaaocckfnlgdaaGreatDoorW.PrintLast Go.Proofs.YtaaaocckfnlgdaaGreatDoorW.PrintMore Go.Proofs.YtaaaocckfnlgdaaGreatDoorU Go.Proofs.YtaaaocckfnlgdaaGreatDoor.PBase
set_option maxRecDepth 100000
set_option linter.unusedVariables false
set_option linter.unusedSimpArgs false
/-- Two members, nobody else. -/
def stM (x0 x1 : TM) : Nat → TM := fun k => if k = 0 then x0 else if k = 1 then x1 else tm0
theorem stM_set0 (x0 x1 y : TM) : mset (stM x0 x1) 0 y = stM y x1 := by
  funext k
  unfold mset stM
  by_cases h : k = 0
  · simp [h]
  · simp [h]
theorem stM_set1 (x0 x1 y : TM) : mset (stM x0 x1) 1 y = stM x0 y := by
  funext k
  unfold mset stM
  by_cases h : k = 1
  · simp [h]
  · simp [h]
theorem stM_still (x0 x1 : TM) : Still (stM x0 x1) := fun k h2 h8 => by
  unfold stM
  rw [if_neg (by omega), if_neg (by omega)]
  rfl
/-- A member who regulates by l and is constrained. -/
def mem2 (l s : Int) : TM := ⟨true, true, 0, l, 0, 0, 0, s⟩
theorem tree_one : Tree [-1] := ⟨by decide, by decide, fun i hi => by
  have h : i = 0 := by simpa using hi
  subst h
  decide⟩
/-- All that one of the two does at first. -/
theorem joinP0 {w : World} {d : Ad} {ps ss : List Int} {x : TM} (H : Rt w d ps ss (stM tm0 x)) :
    Calls Tryz.prog 13 #[.pointer (some ⟨d.g, 0, none⟩), .int .i64 0] w (Turns d ps ss (stM (⟨true, false, 0, 0, 0, 0, 0, 0⟩) x) w) := by
  have h := join0 H rfl
  rw [stM_set0] at h
  exact h
theorem pubP0 {w : World} {d : Ad} {ps ss : List Int} {x : TM} (H : Rt w d ps ss (stM (⟨true, false, 0, 0, 0, 0, 0, 0⟩) x)) (hc : 1 ≤ d.ab.length) :
    Calls Tryz.prog 14 #[.pointer (some ⟨d.g, 0, none⟩), .int .i64 0, .int .i64 0, .bool true] w fun e w' => ∃ ps', Turns d ps' ss (stM (⟨true, false, 0, 0, 0, 0, 0, 0⟩) x) w e w' :=
  (publish0 H rfl hc).mono (fun e w' h => ⟨_, h⟩)
theorem subP0 {w : World} {d : Ad} {ps ss : List Int} {x : TM} (H : Rt w d ps ss (stM (⟨true, false, 0, 0, 0, 0, 0, 0⟩) x)) (hc : 1 ≤ d.ab.length) :
    Calls Tryz.prog 15 #[.pointer (some ⟨d.g, 0, none⟩), .int .i64 0, .int .i64 0, .bool true] w fun e w' => ∃ ss' s, Turns d ps ss' (stM (⟨true, false, 0, 0, 0, 0, 0, s⟩) x) w e w' :=
  (subscribe0 H rfl hc).mono (fun e w' h => by
    obtain ⟨s, h⟩ := h
    rw [stM_set0] at h
    exact ⟨_, s, h⟩)
theorem regP0 {w : World} {d : Ad} {ps ss : List Int} {x : TM} {s : Int} (H : Rt w d ps ss (stM (⟨true, false, 0, 0, 0, 0, 0, s⟩) x)) (hx : x.time = 0) (l : Int) (h1 : 1 ≤ l) (h2 : l ≤ 1048576) :
    Calls Tryz.prog 16 #[.pointer (some ⟨d.g, 0, none⟩), .int .i64 0, .int .i64 l] w (Turns d ps ss (stM (⟨true, false, 0, l, 0, 0, 0, s⟩) x) w) := by
  have h := regulate0 H rfl rfl rfl (fun k hk => by
    unfold stM
    split
    · first | rfl | exact hx
    · split
      · first | rfl | exact hx
      · rfl) l h1 h2
  rw [stM_set0] at h
  exact h
theorem conP0 {w : World} {d : Ad} {ps ss : List Int} {x : TM} {s l : Int} (H : Rt w d ps ss (stM (⟨true, false, 0, l, 0, 0, 0, s⟩) x)) (b : Int) (hb : lbts_Lbts.f 9 (memL (stM (⟨true, false, 0, l, 0, 0, 0, s⟩) x) 8) 0 = some b) (hp : 0 < b) :
    Calls Tryz.prog 17 #[.pointer (some ⟨d.g, 0, none⟩), .int .i64 0] w (Turns d ps ss (stM (mem2 l s) x) w) := by
  have h := constrain0 H rfl rfl rfl b hb hp
  rw [stM_set0] at h
  exact h
theorem joinP1 {w : World} {d : Ad} {ps ss : List Int} {x : TM} (H : Rt w d ps ss (stM x tm0)) :
    Calls Tryz.prog 13 #[.pointer (some ⟨d.g, 0, none⟩), .int .i64 1] w (Turns d ps ss (stM x (⟨true, false, 0, 0, 0, 0, 0, 0⟩)) w) := by
  have h := join1 H rfl
  rw [stM_set1] at h
  exact h
theorem pubP1 {w : World} {d : Ad} {ps ss : List Int} {x : TM} (H : Rt w d ps ss (stM x (⟨true, false, 0, 0, 0, 0, 0, 0⟩))) (hc : 1 ≤ d.ab.length) :
    Calls Tryz.prog 14 #[.pointer (some ⟨d.g, 0, none⟩), .int .i64 1, .int .i64 0, .bool true] w fun e w' => ∃ ps', Turns d ps' ss (stM x (⟨true, false, 0, 0, 0, 0, 0, 0⟩)) w e w' :=
  (publish1 H rfl hc).mono (fun e w' h => ⟨_, h⟩)
theorem subP1 {w : World} {d : Ad} {ps ss : List Int} {x : TM} (H : Rt w d ps ss (stM x (⟨true, false, 0, 0, 0, 0, 0, 0⟩))) (hc : 1 ≤ d.ab.length) :
    Calls Tryz.prog 15 #[.pointer (some ⟨d.g, 0, none⟩), .int .i64 1, .int .i64 0, .bool true] w fun e w' => ∃ ss' s, Turns d ps ss' (stM x (⟨true, false, 0, 0, 0, 0, 0, s⟩)) w e w' :=
  (subscribe1 H rfl hc).mono (fun e w' h => by
    obtain ⟨s, h⟩ := h
    rw [stM_set1] at h
    exact ⟨_, s, h⟩)
theorem regP1 {w : World} {d : Ad} {ps ss : List Int} {x : TM} {s : Int} (H : Rt w d ps ss (stM x (⟨true, false, 0, 0, 0, 0, 0, s⟩))) (hx : x.time = 0) (l : Int) (h1 : 1 ≤ l) (h2 : l ≤ 1048576) :
    Calls Tryz.prog 16 #[.pointer (some ⟨d.g, 0, none⟩), .int .i64 1, .int .i64 l] w (Turns d ps ss (stM x (⟨true, false, 0, l, 0, 0, 0, s⟩)) w) := by
  have h := regulate1 H rfl rfl rfl (fun k hk => by
    unfold stM
    split
    · first | rfl | exact hx
    · split
      · first | rfl | exact hx
      · rfl) l h1 h2
  rw [stM_set1] at h
  exact h
theorem conP1 {w : World} {d : Ad} {ps ss : List Int} {x : TM} {s l : Int} (H : Rt w d ps ss (stM x (⟨true, false, 0, l, 0, 0, 0, s⟩))) (b : Int) (hb : lbts_Lbts.f 9 (memL (stM x (⟨true, false, 0, l, 0, 0, 0, s⟩)) 8) 1 = some b) (hp : 0 < b) :
    Calls Tryz.prog 17 #[.pointer (some ⟨d.g, 0, none⟩), .int .i64 1] w (Turns d ps ss (stM x (mem2 l s)) w) := by
  have h := constrain1 H rfl rfl rfl b hb hp
  rw [stM_set1] at h
  exact h
theorem one_row (g : Nat) (w : World) (h : w.cell? ⟨g, 0, none⟩ = some (.int .i64 (-1))) : Kd.C (Kd.int .i64) w (some ⟨g, 0, none⟩) 1 [-1] := by
  refine ⟨rfl, by decide, fun _ => ⟨_, rfl, fun k x hx => ?_⟩⟩
  match k, hx with
  | 0, hx =>
    obtain rfl := Option.some.inj hx
    refine ⟨[.int .i64 (-1)], rfl, rfl, fun i u hu => ?_⟩
    match i, hu with
    | 0, hu =>
      obtain rfl := Option.some.inj hu
      exact h
theorem stM_none : (fun _ => tm0 : Nat → TM) = stM tm0 tm0 := by
  funext k
  unfold stM
  split
  · rfl
  · split <;> rfl
def pairAt (a b : Int) (i : Nat) (s0 s1 : Int) : Nat → TM := match i with
  | 0 => stM tm0 tm0
  | 1 => stM (mem2 a s0) tm0
  | _ => stM (mem2 a s0) (mem2 b s1)
set_option maxHeartbeats 4000000 in
theorem pair_calls (a b : Int) (ha : 1 ≤ a ∧ a ≤ 1048576) (hb : 1 ≤ b ∧ b ≤ 1048576) (w : World) :
    Calls Tryz.prog 6 #[.int .i64 a, .int .i64 b] w fun e w' => ∃ d ps ss s0 s1, e = .returned (.pointer (some ⟨d.g, 0, none⟩)) ∧ Rt w' d ps ss (stM (mem2 a s0) (mem2 b s1)) ∧ w.heap.size ≤ d.base ∧ Below w.heap.size w w' := by
  have Ha := Aside0.mk ha
  have Hb := Aside0.mk hb
  clear ha hb
  have hn := (rnew_calls ⟨w.heap.size, 0, none⟩ 1 [-1] (w.alloc (.cells #[.int .i64 (-1)] 3 (0, 0))) (one_row w.heap.size _ ((blk_cell (blk_new w (.cells #[.int .i64 (-1)] 3 (0, 0))) 0).trans rfl)) (Nat.le_refl _) tree_one)
  rw [show ([-1] : List Int).length = 1 from rfl] at hn
  have CN := Aside0.mk hn
  clear hn
  have B0 := Aside0.mk (show Below w.heap.size w (w.alloc (.cells #[.int .i64 (-1)] 3 (0, 0))) from below_alloc (Below.refl _ _) _)
  have Z0 := Aside0.mk (show (w.alloc (.cells #[.int .i64 (-1)] 3 (0, 0))).heap.size = w.heap.size + 1 by simp)
  go_enter Tryz.func6, Tryz.ntmps6
  go_upto_region 6 with (go_at_call 12; (with_reducible refine CN.out.mono ?_); rintro e w1 ⟨d, rfl, hr, hbase, hab, hb⟩; rw [stM_none] at hr; have R1 := Aside0.mk hr; have B1 := Aside0.mk (below_step B0.out hb); have HD := Aside0.mk (And.intro hbase hab); clear hr hb hbase hab)
  have NW := Aside0.mk (show (w1.alloc (.cells #[.int .i64 a, .int .i64 b] 3 (0, 0))).heap[w1.heap.size]? = some (.cells #[.int .i64 a, .int .i64 b] 3 (0, 0)) from blk_new w1 _)
  have R2 := Aside0.mk (R1.out.below (show Below w1.heap.size w1 (w1.alloc (.cells #[.int .i64 a, .int .i64 b] 3 (0, 0))) from below_alloc (Below.refl _ _) _))
  have B2 := Aside0.mk (show Below w.heap.size w (w1.alloc (.cells #[.int .i64 a, .int .i64 b] 3 (0, 0))) from below_alloc B1.out _)
  have GL := Aside0.mk (show ¬ (w1.heap.size = d.g ∨ w1.heap.size = d.bt) from fun h => by
    have h1 := blk_lt R1.out.blk
    have h2 := blk_lt R1.out.tab.blk
    omega)
  have HS := Aside0.mk (show ∀ k, (k = d.g ∨ k = d.bt) → w.heap.size ≤ k from fun k hk => by
    have h0 := HD.out.1
    have h1 := R1.out.g0
    have h2 := R1.out.t0
    have h3 := Z0.out
    omega)
  have AB := Aside0.mk (show 1 ≤ d.ab.length from Nat.le_of_eq HD.out.2.symm)
  have HB := Aside0.mk (show w.heap.size ≤ d.base from by have h0 := HD.out.1; have h3 := Z0.out; omega)
  clear R1 B1 CN B0 Z0 HD
  generalize (w1.alloc (.cells #[.int .i64 a, .int .i64 b] 3 (0, 0))) = w2 at NW R2 B2 ⊢
  generalize w1.heap.size = gl at NW GL ⊢
  go_wp2
  go_loopw [9] (fun v9 wr => ∃ i : Nat, i ≤ 2 ∧ v9 = .int .i64 i ∧ Aside0 (wr.heap[gl]? = some (.cells #[.int .i64 a, .int .i64 b] 3 (0, 0))) ∧ (∃ ps ss s0 s1, Rt wr d ps ss (pairAt a b i s0 s1)) ∧ Aside0 (Below w.heap.size w wr)) (fun i _ => 2 - (intOf i).toNat)
  case atStart => exact ⟨0, by omega, rfl, NW, ⟨_, _, 0, 0, R2.out⟩, B2⟩
  case round =>
    clear NW R2 B2
    obtain ⟨i, hi, rfl, NW, ⟨ps, ss, s0, s1, hr⟩, BW⟩ := hrel
    match i, hi, hr with
    | 0, _, hr =>
      have RR := Aside0.mk (show Rt wr d ps ss (stM tm0 tm0) from hr)
      clear hr
      have BD := Aside0.mk (fun (y : TM) (s : Int) => show lbts_Lbts.f 9 (memL (stM y tm0) 8) 0 = some 1125899906842624 from bound_inf (stM y tm0) (stM_still y tm0) 1 (by decide) rfl)
      go_upto_region 9 with (fail)
      go_wp2_with (first | (go_at_call 13; (with_reducible refine (joinP0 RR.out).mono ?_); rintro e wa ⟨rfl, hr, hb⟩; have Ra := Aside0.mk hr; have Na := Aside0.mk (hb.blk NW.out GL.out); have Ba := Aside0.mk (But.below BW.out hb BW.out.size HS.out); clear hr hb) | (go_at_call 14; (with_reducible refine (pubP0 Ra.out AB.out).mono ?_); rintro e wb ⟨ps1, rfl, hr, hb⟩; have Rb := Aside0.mk hr; have Nb := Aside0.mk (hb.blk Na.out GL.out); have Bb := Aside0.mk (But.below Ba.out hb Ba.out.size HS.out); clear hr hb) | (go_at_call 15; (with_reducible refine (subP0 Rb.out AB.out).mono ?_); rintro e wc ⟨ss1, s1, rfl, hr, hb⟩; have Rc := Aside0.mk hr; have Nc := Aside0.mk (hb.blk Nb.out GL.out); have Bc := Aside0.mk (But.below Bb.out hb Bb.out.size HS.out); have z0 := (blk_cell Nc.out 0).trans rfl; clear hr hb) | (go_at_call 16; (with_reducible refine (regP0 Rc.out rfl a Ha.out.1 Ha.out.2).mono ?_); rintro e wd ⟨rfl, hr, hb⟩; have Rd := Aside0.mk hr; have Nd := Aside0.mk (hb.blk Nc.out GL.out); have Bd := Aside0.mk (But.below Bc.out hb Bc.out.size HS.out); clear hr hb) | (go_at_call 17; (with_reducible refine (conP0 Rd.out _ (BD.out _ 0) (by decide)).mono ?_); rintro e we ⟨rfl, hr, hb⟩; have Re := Aside0.mk hr; have Ne := Aside0.mk (hb.blk Nd.out GL.out); have Be := Aside0.mk (But.below Bd.out hb Bd.out.size HS.out); clear hr hb))
      go_roundw
      case measure => simp [intOf]
      case rel => exact ⟨1, by omega, by first | rfl | go_num, Ne, ⟨_, _, _, 0, Re.out⟩, Be⟩
    | 1, _, hr =>
      have RR := Aside0.mk (show Rt wr d ps ss (stM (mem2 a s0) tm0) from hr)
      clear hr
      have BD := Aside0.mk (fun (y : TM) (s : Int) => show lbts_Lbts.f 9 (memL (stM (mem2 a s0) y) 8) 1 = some (0 + a) from bound_val (stM (mem2 a s0) y) (stM_still _ _) 0 (by decide) (Or.inl rfl) Ha.out.1 Ha.out.2 (show (0 : Int) ≤ 0 by decide) (show (0 : Int) ≤ 1000000 by decide))
      go_upto_region 9 with (fail)
      go_wp2_with (first | (go_at_call 13; (with_reducible refine (joinP1 RR.out).mono ?_); rintro e wa ⟨rfl, hr, hb⟩; have Ra := Aside0.mk hr; have Na := Aside0.mk (hb.blk NW.out GL.out); have Ba := Aside0.mk (But.below BW.out hb BW.out.size HS.out); clear hr hb) | (go_at_call 14; (with_reducible refine (pubP1 Ra.out AB.out).mono ?_); rintro e wb ⟨ps1, rfl, hr, hb⟩; have Rb := Aside0.mk hr; have Nb := Aside0.mk (hb.blk Na.out GL.out); have Bb := Aside0.mk (But.below Ba.out hb Ba.out.size HS.out); clear hr hb) | (go_at_call 15; (with_reducible refine (subP1 Rb.out AB.out).mono ?_); rintro e wc ⟨ss1, s1, rfl, hr, hb⟩; have Rc := Aside0.mk hr; have Nc := Aside0.mk (hb.blk Nb.out GL.out); have Bc := Aside0.mk (But.below Bb.out hb Bb.out.size HS.out); have z0 := (blk_cell Nc.out 1).trans rfl; clear hr hb) | (go_at_call 16; (with_reducible refine (regP1 Rc.out rfl b Hb.out.1 Hb.out.2).mono ?_); rintro e wd ⟨rfl, hr, hb⟩; have Rd := Aside0.mk hr; have Nd := Aside0.mk (hb.blk Nc.out GL.out); have Bd := Aside0.mk (But.below Bc.out hb Bc.out.size HS.out); clear hr hb) | (go_at_call 17; (with_reducible refine (conP1 Rd.out _ (BD.out _ 0) (by have := Ha.out.1; omega)).mono ?_); rintro e we ⟨rfl, hr, hb⟩; have Re := Aside0.mk hr; have Ne := Aside0.mk (hb.blk Nd.out GL.out); have Be := Aside0.mk (But.below Bd.out hb Bd.out.size HS.out); clear hr hb))
      go_roundw
      case measure => simp [intOf]
      case rel => exact ⟨2, by omega, by first | rfl | go_num, Ne, ⟨_, _, s0, _, Re.out⟩, Be⟩
    | 2, _, hr =>
      have RR := Aside0.mk (show Rt wr d ps ss (stM (mem2 a s0) (mem2 b s1)) from hr)
      clear hr
      go_wp2
      go_ret
      exact ⟨d, ps, ss, s0, s1, rfl, RR.out, HB.out, BW.out⟩
end Go.Proofs.YtaaaocckfnlgdaaGreatDoorT
