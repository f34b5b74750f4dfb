/- TopWaits, walked. -/
import Derived.Test.YtaaaocckfnlgdaaGreatDoorPair
import Derived.Test.YtaaaocckfnlgdaaGreatDoorLookA
namespace Go.Proofs.YtaaaocckfnlgdaaGreatDoorT
open Go.RowKit Go.Proofs.YtaaaocckfnlgdaaGreatDoorW.PrintWords Go.Proofs.YtaaaocckfnlgdaaGreatDoorW.PrintLast Go.Proofs.YtaaaocckfnlgdaaGreatDoorW.PrintMore Go.Proofs.YtaaaocckfnlgdaaGreatDoorU Go.Proofs.YtaaaocckfnlgdaaGreatDoor.PBase
set_option maxRecDepth 100000
set_option linter.unusedVariables false
set_option linter.unusedSimpArgs false
/-- A member who asks to go to a time. -/
def asks (l s t : Int) : TM := ⟨true, true, 0, l, 1, t, 0, s⟩
/-- A member who stands at a time. -/
def stands (l s t : Int) : TM := ⟨true, true, t, l, 0, 0, 0, s⟩
theorem wAsk1 {w : World} {d : Ad} {ps ss : List Int} {x : TM} {l s t : Int} (H : Rt w d ps ss (stM x (mem2 l s))) (h0 : 0 ≤ t) (h1 : t ≤ 1000) :
    Calls Tryz.prog 7 #[.pointer (some ⟨d.g, 0, none⟩), .int .i64 1, .int .i64 1, .int .i64 t] w (Turns d ps ss (stM x (asks l s t)) w) := by
  have h := ask1 H rfl rfl 1 t (by omega) (by omega) h0 (by omega) h0
  rw [stM_set1] at h
  exact h
theorem wAsk0 {w : World} {d : Ad} {ps ss : List Int} {x : TM} {l s t : Int} (H : Rt w d ps ss (stM (mem2 l s) x)) (h0 : 0 ≤ t) (h1 : t ≤ 1000) :
    Calls Tryz.prog 7 #[.pointer (some ⟨d.g, 0, none⟩), .int .i64 0, .int .i64 1, .int .i64 t] w (Turns d ps ss (stM (asks l s t) x) w) := by
  have h := ask0 H rfl rfl 1 t (by omega) (by omega) h0 (by omega) h0
  rw [stM_set0] at h
  exact h
theorem wLook1no {w : World} {d : Ad} {ps ss : List Int} {l s t k r : Int} (H : Rt w d ps ss (stM (mem2 k r) (asks l s t))) (hk : 1 ≤ k ∧ k ≤ 1000) (hn : ¬ t < k) :
    Calls Tryz.prog 8 #[.pointer (some ⟨d.g, 0, none⟩), .int .i64 1] w fun e w' => e = .returned (given false 0) ∧ Rt w' d ps ss (stM (mem2 k r) (asks l s t)) ∧ But (fun b => b = d.g ∨ b = d.bt) w w' :=
  look1_no H rfl rfl rfl (0 + k) (bound_val (stM (mem2 k r) (asks l s t)) (stM_still _ _) 0 (by decide) (Or.inl rfl) hk.1 (show k ≤ 1048576 by omega) (show (0 : Int) ≤ 0 by decide) (show (0 : Int) ≤ 1000000 by decide)) (show ¬ t < 0 + k by omega)
theorem wLook1yes {w : World} {d : Ad} {ps ss : List Int} {l s t : Int} {x : TM} (H : Rt w d ps ss (stM x (asks l s t))) (hk : x.kind = 0 ∨ x.kind = 1) (h1 : 1 ≤ x.look ∧ x.look ≤ 1000) (h2 : 0 ≤ basis x ∧ basis x ≤ 1000000) (hn : t < basis x + x.look) :
    Calls Tryz.prog 8 #[.pointer (some ⟨d.g, 0, none⟩), .int .i64 1] w fun e w' => e = .returned (given true t) ∧ Rt w' d ps ss (stM x (stands l s t)) ∧ But (fun b => b = d.g ∨ b = d.bt) w w' := by
  have h := look1_yes H rfl rfl rfl (basis x + x.look) (bound_val (stM x (asks l s t)) (stM_still _ _) 0 (by decide) hk h1.1 (show x.look ≤ 1048576 by omega) h2.1 h2.2) hn
  rw [stM_set1] at h
  exact h
set_option maxHeartbeats 4000000 in
theorem waits_calls (a b far : Int) (ha : 0 ≤ a ∧ a ≤ 255) (hb : 0 ≤ b ∧ b ≤ 255) (hf : 0 ≤ far ∧ far ≤ 255) (w : World) :
    Calls Tryz.prog 4 #[.int .u8 a, .int .u8 b, .int .u8 far] w fun e w' => e = .returned (.bool true) ∧ Below w.heap.size w w' := by
  obtain ⟨a0, a1⟩ := ha
  obtain ⟨b0, b1⟩ := hb
  obtain ⟨f0, f1⟩ := hf
  have HX := Aside0.mk (show 1 ≤ 1 + a % 20 ∧ 1 + a % 20 ≤ 20 by omega)
  have HY := Aside0.mk (show 1 ≤ 1 + b % 20 ∧ 1 + b % 20 ≤ 20 by omega)
  have CP := Aside0.mk (fun W => pair_calls (1 + a % 20) (1 + b % 20) ⟨HX.out.1, by have := HX.out.2; omega⟩ ⟨HY.out.1, by have := HY.out.2; omega⟩ W)
  by_cases hx : far < 1 + a % 20
  · go_enter Tryz.func4, Tryz.ntmps4
    go_upto_region 9 with (first | (go_at_call 6; (with_reducible refine (CP.out _).mono ?_); rintro e w1 ⟨d, ps, ss, s0, s1, rfl, hr, hb, hw⟩; have R1 := Aside0.mk hr; have D1 := Aside0.mk hb; have B1 := Aside0.mk hw; clear hr hb hw) | (go_at_call 7; (with_reducible refine (wAsk1 R1.out f0 (by omega)).mono ?_); rintro e w2 ⟨rfl, hr, hb⟩; have R2 := Aside0.mk hr; have B2 := Aside0.mk hb; clear hr hb))
    have HS := Aside0.mk (show ∀ k, (k = d.g ∨ k = d.bt) → w.heap.size ≤ k from fun k hk => by
      have h0 := D1.out
      have h1 := R1.out.g0
      have h2 := R1.out.t0
      omega)
    have L1 := Aside0.mk (But.below B1.out B2.out B1.out.size HS.out)
    have CL := wLook1yes R2.out (Or.inl rfl) ⟨HX.out.1, (show 1 + a % 20 ≤ 1000 by have := HX.out.2; omega)⟩ ⟨(show (0 : Int) ≤ 0 by decide), (show (0 : Int) ≤ 1000000 by decide)⟩ (show far < 0 + (1 + a % 20) by omega)
    unfold given at CL
    replace CL := Aside0.mk CL
    go_wp2_with (first | (go_at_call 8; (with_reducible refine CL.out.mono ?_); rintro e w3 ⟨rfl, hr, hb⟩; have R3 := Aside0.mk hr; have L3 := Aside0.mk (But.below L1.out hb L1.out.size HS.out); clear hr hb) | (go_at_call 9; (with_reducible refine (time1 (R3.out.below (below_alloc (Below.refl _ _) _)) rfl).mono ?_); rintro e w4 ⟨rfl, rfl⟩))
    go_ret
    exact ⟨by show Ending.returned (.bool (far == far)) = _; simp, below_alloc L3.out _⟩
  · have HN := Aside0.mk (show 0 ≤ far - (1 + a % 20) + 1 ∧ far - (1 + a % 20) + 1 ≤ 1000 by omega)
    go_enter Tryz.func4, Tryz.ntmps4
    go_upto_region 9 with (first | (go_at_call 6; (with_reducible refine (CP.out _).mono ?_); rintro e w1 ⟨d, ps, ss, s0, s1, rfl, hr, hb, hw⟩; have R1 := Aside0.mk hr; have D1 := Aside0.mk hb; have B1 := Aside0.mk hw; clear hr hb hw) | (go_at_call 7; (with_reducible refine (wAsk1 R1.out f0 (by omega)).mono ?_); rintro e w2 ⟨rfl, hr, hb⟩; have R2 := Aside0.mk hr; have B2 := Aside0.mk hb; clear hr hb))
    have HS := Aside0.mk (show ∀ k, (k = d.g ∨ k = d.bt) → w.heap.size ≤ k from fun k hk => by
      have h0 := D1.out
      have h1 := R1.out.g0
      have h2 := R1.out.t0
      omega)
    have L1 := Aside0.mk (But.below B1.out B2.out B1.out.size HS.out)
    have CL := wLook1no R2.out ⟨HX.out.1, (show 1 + a % 20 ≤ 1000 by have := HX.out.2; omega)⟩ (by omega)
    unfold given at CL
    replace CL := Aside0.mk CL
    go_upto_region 15 with (go_at_call 8; (with_reducible refine CL.out.mono ?_); rintro e w3 ⟨rfl, hr, hb⟩; have R3 := Aside0.mk (hr.below (below_alloc (Below.refl _ _) (.cells #[.slice none 0 0, .slice none 0 0, .bool false, .int .i64 0] 29 (0, 0)))); have L3 := Aside0.mk (below_alloc (But.below L1.out hb L1.out.size HS.out) (.cells #[.slice none 0 0, .slice none 0 0, .bool false, .int .i64 0] 29 (0, 0))); clear hr hb)
    go_upto_region 17 with (go_at_call 7; (with_reducible refine (wAsk0 R3.out HN.out.1 HN.out.2).mono ?_); rintro e w4 ⟨rfl, hr, hb⟩; have R4 := Aside0.mk hr; have L4 := Aside0.mk (But.below L3.out hb L3.out.size HS.out); clear hr hb)
    have CM := wLook1yes R4.out (Or.inr rfl) ⟨HX.out.1, (show 1 + a % 20 ≤ 1000 by have := HX.out.2; omega)⟩ ⟨(show (0 : Int) ≤ far - (1 + a % 20) + 1 by omega), (show far - (1 + a % 20) + 1 ≤ 1000000 by omega)⟩ (show far < (far - (1 + a % 20) + 1) + (1 + a % 20) by omega)
    unfold given at CM
    replace CM := Aside0.mk CM
    go_upto_region 18 with (go_at_call 8; (with_reducible refine CM.out.mono ?_); rintro e w5 ⟨rfl, hr, hb⟩; have R5 := Aside0.mk (hr.below (below_alloc (Below.refl _ _) (.cells #[.slice none 0 0, .slice none 0 0, .bool true, .int .i64 far] 29 (0, 0)))); have L5 := Aside0.mk (below_alloc (But.below L4.out hb L4.out.size HS.out) (.cells #[.slice none 0 0, .slice none 0 0, .bool true, .int .i64 far] 29 (0, 0))); clear hr hb)
    have CB := Aside0.mk (bound1 R5.out rfl f0 (far - (1 + a % 20) + 1 + (1 + a % 20)) (bound_val (stM (asks (1 + a % 20) s0 (far - (1 + a % 20) + 1)) (stands (1 + b % 20) s1 far)) (stM_still _ _) 0 (by decide) (Or.inr rfl) HX.out.1 (show 1 + a % 20 ≤ 1048576 by have := HX.out.2; omega) (show (0 : Int) ≤ far - (1 + a % 20) + 1 by omega) (show far - (1 + a % 20) + 1 ≤ 1000000 by omega)))
    go_wp2_with (go_at_call 10; (with_reducible refine CB.out.mono ?_); rintro e w6 ⟨rfl, hb⟩; have L6 := Aside0.mk (below_step L5.out hb); clear hb)
    go_ret
    exact ⟨by simp, L6.out⟩
end Go.Proofs.YtaaaocckfnlgdaaGreatDoorT
