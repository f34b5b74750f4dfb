/- The calls of package pubsub at a table: what each answers, and what the table is then. -/
import Derived.Test.YtaaaocckfnlgdaaGreatDoorTab
import Derived.BigQuiet
import Derived.BigRegion
import Derived.Deep.RegionWith
import Derived.Shelf.RegionOpen
namespace Go.Proofs.YtaaaocckfnlgdaaGreatDoorT
open Go.RowKit Go.Proofs.YtaaaocckfnlgdaaGreatDoorW.PrintWords
set_option linter.unusedVariables false
set_option linter.unusedSimpArgs false

set_option maxHeartbeats 1000000 in
theorem check_calls {w : World} {b a m : Nat} {ab ps ss : List Int} (H : Tab w b a m ab ps ss) (f c : Int) :
    Calls Tryz.prog 46 #[.pointer (some ⟨b, 0, none⟩), .int .i64 f, .int .i64 c] w fun e w' => e = .returned (.int .i64 (errT ab.length f c)) ∧ w = w' := by
  have h0 := H.c0
  by_cases hf : 0 ≤ f ∧ f < 8
  · by_cases hc : 0 ≤ c ∧ c < ab.length
    · rw [errT_ok hf hc]
      obtain ⟨h1, h2⟩ := hf
      obtain ⟨h3, h4⟩ := hc
      clear H
      go_enter Tryz.func46, Tryz.ntmps46
      go_wp2
      go_ret
      exact ⟨rfl, rfl⟩
    · rw [errT_c hf hc]
      obtain ⟨h1, h2⟩ := hf
      clear H
      by_cases h3 : 0 ≤ c
      · have h4 : (ab.length : Int) ≤ c := by omega
        clear hc
        go_enter Tryz.func46, Tryz.ntmps46
        go_wp2
        go_ret
        exact ⟨rfl, rfl⟩
      · have h4 : c < 0 := by omega
        clear hc h3
        go_enter Tryz.func46, Tryz.ntmps46
        go_wp2
        go_ret
        exact ⟨rfl, rfl⟩
  · rw [errT_f hf]
    clear H
    by_cases h3 : 0 ≤ f
    · have h4 : 8 ≤ f := by omega
      clear hf
      go_enter Tryz.func46, Tryz.ntmps46
      go_wp2
      go_ret
      exact ⟨rfl, rfl⟩
    · have h4 : f < 0 := by omega
      clear hf h3
      go_enter Tryz.func46, Tryz.ntmps46
      go_wp2
      go_ret
      exact ⟨rfl, rfl⟩

set_option maxHeartbeats 1000000 in
theorem turn_on (b o c : Nat) (x : Int) (w : World) (h : w.cell? ⟨b, o, none⟩ = some (.int .u32 x)) (hf : w.frozen? ⟨b, o, none⟩ = false) (hx : 0 ≤ x ∧ x < 4294967296) (hc : c < 16) :
    Calls Tryz.prog 72 #[.pointer (some ⟨b, o, none⟩), .int .i64 c] w fun e w' => e = .returned (.tuple #[]) ∧ w' = w.setCell ⟨b, o, none⟩ (.int .u32 (setBit x c true)) := by
  have E := Aside0.mk (bit_on hc hx)
  go_enter Tryz.func72, Tryz.ntmps72
  go_wp2
  rw [E.out]
  go_end0
  exact ⟨rfl, rfl⟩
set_option maxHeartbeats 1000000 in
theorem turn_off (b o c : Nat) (x : Int) (w : World) (h : w.cell? ⟨b, o, none⟩ = some (.int .u32 x)) (hf : w.frozen? ⟨b, o, none⟩ = false) (hx : 0 ≤ x ∧ x < 4294967296) (hc : c < 16) :
    Calls Tryz.prog 73 #[.pointer (some ⟨b, o, none⟩), .int .i64 c] w fun e w' => e = .returned (.tuple #[]) ∧ w' = w.setCell ⟨b, o, none⟩ (.int .u32 (setBit x c false)) := by
  have E := Aside0.mk (bit_off hc hx)
  go_enter Tryz.func73, Tryz.ntmps73
  go_wp2
  rw [E.out]
  go_end0
  exact ⟨rfl, rfl⟩
set_option maxHeartbeats 1000000 in
theorem turn_true (w : World) : Calls Tryz.prog 55 #[.bool true] w fun e w' => e = .returned (.func (.func 72) #[] #[]) ∧ w = w' := by
  go_enter Tryz.func55, Tryz.ntmps55
  go_wp2
  go_ret
  exact ⟨rfl, rfl⟩
set_option maxHeartbeats 1000000 in
theorem turn_false (w : World) : Calls Tryz.prog 55 #[.bool false] w fun e w' => e = .returned (.func (.func 73) #[] #[]) ∧ w = w' := by
  go_enter Tryz.func55, Tryz.ntmps55
  go_wp2
  go_ret
  exact ⟨rfl, rfl⟩
theorem putW_no {n : Nat} {ps : List Int} {f c : Int} {is : Bool} (h : errT n f c ≠ 0) : putW n ps f c is = ps := if_neg h
theorem putW_ok {n : Nat} {ps : List Int} {F C : Nat} {is : Bool} (hf : F < 8) (hc : C < n) : putW n ps F C is = ps.set F (setBit (ps.getD F 0) C is) := by
  unfold putW
  rw [if_pos (errT_ok (by omega) (by omega))]
  rfl
/-- Publish: its answer; the table then; what else has turned: nothing. -/
def PutP (w : World) (b a m : Nat) (ab ps ss : List Int) (r : Int) (e : Ending) (w' : World) : Prop := e = .returned (.int .i64 r) ∧ Tab w' b a m ab ps ss ∧ But (fun k => k = b) w w'
set_option maxHeartbeats 4000000 in
theorem publish_calls {w : World} {b a m : Nat} {ab ps ss : List Int} (H : Tab w b a m ab ps ss) (f c : Int) (is : Bool) :
    Calls Tryz.prog 33 #[.pointer (some ⟨b, 0, none⟩), .int .i64 f, .int .i64 c, .bool is] w (PutP w b a m ab (putW ab.length ps f c is) ss (errT ab.length f c)) := by
  by_cases he : errT ab.length f c = 0
  · obtain ⟨F, C, rfl, rfl, hF, hC⟩ := errT_inv he
    rw [putW_ok hF hC, he]
    have hp := H.cp F hF
    have hz := H.fz (1 + F)
    have hx := u32s_getD H.wp F
    have h16 : C < 16 := by have := H.le; omega
    have HT := fun is => Aside0.mk (H.setp F (setBit (ps.getD F 0) C is) hF (setBit_u32 is h16 hx))
    have C1 := Aside0.mk (check_calls H (F : Int) (C : Int))
    rw [he] at C1
    generalize ps.getD F 0 = x at hp hx HT ⊢
    have HB := fun is => Aside0.mk (But.set (S := fun k => k = b) (But.refl _ w) (p := ⟨b, 1 + F, none⟩) rfl (.int .u32 (setBit x C is)))
    have T1 := Aside0.mk (fun w1 (h : w1.cell? ⟨b, 1 + F, none⟩ = some (.int .u32 x)) h' => turn_on b (1 + F) C x w1 h h' hx h16)
    have T2 := Aside0.mk (fun w1 (h : w1.cell? ⟨b, 1 + F, none⟩ = some (.int .u32 x)) h' => turn_off b (1 + F) C x w1 h h' hx h16)
    have hF1 : (F : Int) < 8 := by omega
    clear he H hC h16 hx
    cases is with
    | true =>
      have HT1 := Aside0.mk (HT true).out
      have HB1 := Aside0.mk (HB true).out
      clear HT HB T2
      go_enter Tryz.func33, Tryz.ntmps33
      go_wp2_with (go_at_call 46; refine C1.out.mono ?_; rintro e w' ⟨rfl, rfl⟩)
      go_region_with (first | (go_at_call 55; refine (turn_true _).mono ?_; rintro e w' ⟨rfl, rfl⟩) | (go_at_call 72; refine (T1.out _ (by exact hp) (by exact hz)).mono ?_; rintro e w' ⟨rfl, rfl⟩))
      go_wp2
      go_ret
      exact ⟨rfl, HT1.out.drew, HB1.out.drew⟩
    | false =>
      have HT1 := Aside0.mk (HT false).out
      have HB1 := Aside0.mk (HB false).out
      clear HT HB T1
      go_enter Tryz.func33, Tryz.ntmps33
      go_wp2_with (go_at_call 46; refine C1.out.mono ?_; rintro e w' ⟨rfl, rfl⟩)
      go_region_with (first | (go_at_call 55; refine (turn_false _).mono ?_; rintro e w' ⟨rfl, rfl⟩) | (go_at_call 73; refine (T2.out _ (by exact hp) (by exact hz)).mono ?_; rintro e w' ⟨rfl, rfl⟩))
      go_wp2
      go_ret
      exact ⟨rfl, HT1.out.drew, HB1.out.drew⟩
  · rw [putW_no he]
    have C1 := Aside0.mk (check_calls H f c)
    have HE := Aside0.mk he
    have HH := Aside0.mk H
    have e1 : (errT ab.length f c != 0) = true := bne_iff_ne.mpr he
    generalize errT ab.length f c = r at C1 HE e1
    clear H he
    go_enter Tryz.func33, Tryz.ntmps33
    go_wp2_with (go_at_call 46; refine C1.out.mono ?_; rintro e w' ⟨rfl, rfl⟩)
    go_ret
    exact ⟨rfl, HH.out, But.refl _ _⟩
set_option maxHeartbeats 4000000 in
theorem subscribe_calls {w : World} {b a m : Nat} {ab ps ss : List Int} (H : Tab w b a m ab ps ss) (f c : Int) (is : Bool) :
    Calls Tryz.prog 56 #[.pointer (some ⟨b, 0, none⟩), .int .i64 f, .int .i64 c, .bool is] w (PutP w b a m ab ps (putW ab.length ss f c is) (errT ab.length f c)) := by
  by_cases he : errT ab.length f c = 0
  · obtain ⟨F, C, rfl, rfl, hF, hC⟩ := errT_inv he
    rw [putW_ok hF hC, he]
    have hp := H.cs F hF
    have hz := H.fz (9 + F)
    have hx := u32s_getD H.ws F
    have h16 : C < 16 := by have := H.le; omega
    have HT := fun is => Aside0.mk (H.sets F (setBit (ss.getD F 0) C is) hF (setBit_u32 is h16 hx))
    have C1 := Aside0.mk (check_calls H (F : Int) (C : Int))
    rw [he] at C1
    generalize ss.getD F 0 = x at hp hx HT ⊢
    have HB := fun is => Aside0.mk (But.set (S := fun k => k = b) (But.refl _ w) (p := ⟨b, 9 + F, none⟩) rfl (.int .u32 (setBit x C is)))
    have T1 := Aside0.mk (fun w1 (h : w1.cell? ⟨b, 9 + F, none⟩ = some (.int .u32 x)) h' => turn_on b (9 + F) C x w1 h h' hx h16)
    have T2 := Aside0.mk (fun w1 (h : w1.cell? ⟨b, 9 + F, none⟩ = some (.int .u32 x)) h' => turn_off b (9 + F) C x w1 h h' hx h16)
    have hF1 : (F : Int) < 8 := by omega
    clear he H hC h16 hx
    cases is with
    | true =>
      have HT1 := Aside0.mk (HT true).out
      have HB1 := Aside0.mk (HB true).out
      clear HT HB T2
      go_enter Tryz.func56, Tryz.ntmps56
      go_wp2_with (go_at_call 46; refine C1.out.mono ?_; rintro e w' ⟨rfl, rfl⟩)
      go_region_with (first | (go_at_call 55; refine (turn_true _).mono ?_; rintro e w' ⟨rfl, rfl⟩) | (go_at_call 72; refine (T1.out _ (by exact hp) (by exact hz)).mono ?_; rintro e w' ⟨rfl, rfl⟩))
      go_wp2
      go_ret
      exact ⟨rfl, HT1.out.drew, HB1.out.drew⟩
    | false =>
      have HT1 := Aside0.mk (HT false).out
      have HB1 := Aside0.mk (HB false).out
      clear HT HB T1
      go_enter Tryz.func56, Tryz.ntmps56
      go_wp2_with (go_at_call 46; refine C1.out.mono ?_; rintro e w' ⟨rfl, rfl⟩)
      go_region_with (first | (go_at_call 55; refine (turn_false _).mono ?_; rintro e w' ⟨rfl, rfl⟩) | (go_at_call 73; refine (T2.out _ (by exact hp) (by exact hz)).mono ?_; rintro e w' ⟨rfl, rfl⟩))
      go_wp2
      go_ret
      exact ⟨rfl, HT1.out.drew, HB1.out.drew⟩
  · rw [putW_no he]
    have C1 := Aside0.mk (check_calls H f c)
    have HE := Aside0.mk he
    have HH := Aside0.mk H
    have e1 : (errT ab.length f c != 0) = true := bne_iff_ne.mpr he
    generalize errT ab.length f c = r at C1 HE e1
    clear H he
    go_enter Tryz.func56, Tryz.ntmps56
    go_wp2_with (go_at_call 46; refine C1.out.mono ?_; rintro e w' ⟨rfl, rfl⟩)
    go_ret
    exact ⟨rfl, HH.out, But.refl _ _⟩

set_option maxHeartbeats 4000000 in
theorem publishes_calls {w : World} {b a m : Nat} {ab ps ss : List Int} (H : Tab w b a m ab ps ss) (f c : Int) :
    Calls Tryz.prog 47 #[.pointer (some ⟨b, 0, none⟩), .int .i64 f, .int .i64 c] w fun e w' => e = .returned (.bool (pubsB ab.length ps f c)) ∧ w = w' := by
  have C1 := Aside0.mk (check_calls H f c)
  by_cases he : errT ab.length f c = 0
  · obtain ⟨F, C, rfl, rfl, hF, hC⟩ := errT_inv he
    have h16 : C < 16 := by have := H.le; omega
    have hB : pubsB ab.length ps (F : Int) (C : Int) = (ps.getD F 0).toNat.testBit C := by
      unfold pubsB
      rw [decide_eq_true he]
      rfl
    have hp := H.cp F hF
    have hF1 : (F : Int) < 8 := by omega
    have HQ := Aside0.mk (bit_asks h16 (u32s_getD H.wp F))
    rw [hB]
    rw [he] at C1
    generalize ps.getD F 0 = x at hp HQ ⊢
    clear he H hC hB
    go_enter Tryz.func47, Tryz.ntmps47
    go_wp2_with (go_at_call 46; refine C1.out.mono ?_; rintro e w' ⟨rfl, rfl⟩)
    rw [HQ.out]
    go_ret
    exact ⟨rfl, rfl⟩
  · have e1 : (errT ab.length f c == 0) = false := beq_eq_false_iff_ne.mpr he
    have hB : pubsB ab.length ps f c = false := by
      unfold pubsB
      rw [decide_eq_false he]
      rfl
    rw [hB]
    generalize errT ab.length f c = r at C1 e1
    clear H he hB
    go_enter Tryz.func47, Tryz.ntmps47
    go_wp2_with (go_at_call 46; refine C1.out.mono ?_; rintro e w' ⟨rfl, rfl⟩)
    go_ret
    exact ⟨rfl, rfl⟩

end Go.Proofs.YtaaaocckfnlgdaaGreatDoorT
