/- New queues, a new table of the federation. -/
import Derived.Test.YtaaaocckfnlgdaaGreatDoorRtiB
import Derived.Carry
import Derived.Lib.BufferMore
namespace Go.Proofs.YtaaaocckfnlgdaaGreatDoorT
open Go.RowKit Go.Proofs.YtaaaocckfnlgdaaGreatDoorW.PrintWords Go.Proofs.YtaaaocckfnlgdaaGreatDoorW.PrintLast Go.Proofs.YtaaaocckfnlgdaaGreatDoorW.PrintMore Go.Proofs.YtaaaocckfnlgdaaGreatDoorU Go.Proofs.YtaaaocckfnlgdaaGreatDoor.PBase
set_option maxRecDepth 100000
set_option linter.unusedVariables false
set_option linter.unusedSimpArgs false
set_option maxHeartbeats 1000000 in
theorem qnew_calls (w : World) : Calls Tryz.prog 32 #[.int .i64 64] w fun e w' => ∃ q r, e = .returned (.pointer (some ⟨q, 0, none⟩)) ∧ w'.heap[q]? = some (.cells #[.int .i64 64, .slice none 0 0, .map (some r)] 92 (0, 0)) ∧ w.heap.size ≤ q ∧ Below w.heap.size w w' := by
  have hmm := @run_makeMap Tryz.prog
  go_enter Tryz.func32, Tryz.ntmps32
  go_wp2
  go_ret
  refine ⟨_, w.heap.size, rfl, by have h := blk_new (w.alloc (.map #[] 0)) (.cells #[.int .i64 64, .slice none 0 0, .map (some w.heap.size)] 92 (0, 0)); simpa using h, ?_, below_alloc (below_alloc (Below.refl _ w) _) _⟩
  simp
set_option maxHeartbeats 1000000 in
/-- A row of parents, once more. -/
theorem clone_calls (ad : Addr) (c0 : Nat) (l0 : List Int) (w : World) (hr0 : Kd.C (Kd.int .i64) w (some ad) l0.length l0) (hl : l0.length < 1000000) :
    Calls Tryz.prog 31 #[.slice (some ad) l0.length c0] w fun e w' => ∃ v, e = .returned v ∧ Kd.R (Kd.int .i64) 3 w' w.heap.size (fun _ => True) v l0 ∧ Below w.heap.size w w' := by
  have HR := Aside0.mk hr0
  clear hr0
  have heq := fun W => Lib.run_eql_slice_some_nil (P := Tryz.prog) W (t := 35) (e := 3) ad l0.length c0 Tryz.underlying35
  go_enter Tryz.func31, Tryz.ntmps31
  go_wp2_with (first
    | ((with_reducible refine gate_dst (N := 5) rfl ?_); refine Kd.R_lit (Kd.int .i64) _ 3 ?hg (N := 5) ?hd (xs := ([] : List Int)) (inner := []) (ok := fun _ => True) (okp := fun _ => True) ?hr ?hp (fun _ hk => hk) trivial (Below.refl _ _) (Nat.le_refl _) (by simp) ?_; (case hd => rfl); (case hg => rfl); (case hr => first | (go_simp; done) | (go_simp; rfl)); (case hp => exact (Reps.none _ _)); intro v1 w1 ho1 hb1 hg_ hnew_; clear hg_ hnew_; have HO := Aside0.mk ho1; have HB := Aside0.mk hb1; clear ho1 hb1)
    | ((with_reducible refine gate_builtin (b := .append) (xs := #[.tmp 5, .tmp 6]) rfl ?_); at_builtin; refine Kd.R_append_rows (Kd.int .i64) (w0 := w) w.heap.size rfl (.tmp 5) (.tmp 6) 35 3 (.int .i64 0) 8 rfl Tryz.underlying35 info_int rfl (by decide) (by omega) v1 [] l0 _ _ _ (fun _ => True) (fun _ => False) rfl rfl ?aO ?aR (fun _ _ h => h) (fun _ h => h.elim) ?aF ?aB ?aS ?aL ?_; (case aO => exact HO.out); (case aR => exact Kd.C_below HR.out HB.out); (case aF => exact fun _ _ => trivial); (case aB => exact HB.out); (case aS => exact HB.out.size); (case aL => simp; omega); intro v2 w2 ho2 hb2 hg2 hat2; have HO2 := Aside0.mk ho2; have HB2 := Aside0.mk hb2; clear ho2 hb2 hg2 hat2))
  go_ret
  refine ⟨_, rfl, ?_, HB2.out⟩
  simpa using HO2.out
/-- A member who has not joined. -/
def tm0 : TM := ⟨false, false, 0, 0, 0, 0, 0, 0⟩
/-- The table while its queues are laid. -/
def pcells (P : Value) (bt : Nat) (v : Nat → Value) : Array Value := #[P, .pointer (some ⟨bt, 0, none⟩), .bool false, .bool false, .int .i64 0, .int .i64 0, .int .i64 0, .int .i64 0, .int .i64 0, v 0, .slice none 0 0, .int .u32 0,
    .bool false, .bool false, .int .i64 0, .int .i64 0, .int .i64 0, .int .i64 0, .int .i64 0, v 1, .slice none 0 0, .int .u32 0,
    .bool false, .bool false, .int .i64 0, .int .i64 0, .int .i64 0, .int .i64 0, .int .i64 0, v 2, .slice none 0 0, .int .u32 0,
    .bool false, .bool false, .int .i64 0, .int .i64 0, .int .i64 0, .int .i64 0, .int .i64 0, v 3, .slice none 0 0, .int .u32 0,
    .bool false, .bool false, .int .i64 0, .int .i64 0, .int .i64 0, .int .i64 0, .int .i64 0, v 4, .slice none 0 0, .int .u32 0,
    .bool false, .bool false, .int .i64 0, .int .i64 0, .int .i64 0, .int .i64 0, .int .i64 0, v 5, .slice none 0 0, .int .u32 0,
    .bool false, .bool false, .int .i64 0, .int .i64 0, .int .i64 0, .int .i64 0, .int .i64 0, v 6, .slice none 0 0, .int .u32 0,
    .bool false, .bool false, .int .i64 0, .int .i64 0, .int .i64 0, .int .i64 0, .int .i64 0, v 7, .slice none 0 0, .int .u32 0, .bool false]
theorem pcells_full (P : Value) (bt : Nat) (q : Nat → Nat) : rcells P bt (fun _ => tm0) q = pcells P bt (fun i => .pointer (some ⟨q i, 0, none⟩)) := rfl
theorem pcells_set (P : Value) (bt : Nat) (v : Nat → Value) (k : Nat) (hk : k < 8) (u : Value) : (pcells P bt v).setIfInBounds (2 + k * 10 + 7) u = pcells P bt (fun i => if i = k then u else v i) := by
  match k, hk with
  | 0, _ => rfl
  | 1, _ => rfl
  | 2, _ => rfl
  | 3, _ => rfl
  | 4, _ => rfl
  | 5, _ => rfl
  | 6, _ => rfl
  | 7, _ => rfl
theorem pcells_at (P : Value) (bt : Nat) (v : Nat → Value) (k : Nat) (hk : k < 8) : (pcells P bt v)[2 + k * 10 + 7]? = some (v k) := by
  match k, hk with
  | 0, _ => rfl
  | 1, _ => rfl
  | 2, _ => rfl
  | 3, _ => rfl
  | 4, _ => rfl
  | 5, _ => rfl
  | 6, _ => rfl
  | 7, _ => rfl
set_option maxHeartbeats 2000000 in
/-- A new federation over a tree of classes. -/
theorem rnew_calls (ad : Addr) (c0 : Nat) (l0 : List Int) (w : World) (hr0 : Kd.C (Kd.int .i64) w (some ad) l0.length l0) (hc0 : l0.length ≤ c0) (ht : Tree l0) :
    Calls Tryz.prog 12 #[.slice (some ad) l0.length c0] w fun e w' => ∃ d : Ad, e = .returned (.tuple #[.pointer (some ⟨d.g, 0, none⟩), .int .i64 0]) ∧ Rt w' d (List.replicate 8 0) (List.replicate 8 0) (fun _ => tm0) ∧ d.base = w.heap.size ∧ d.ab.length = l0.length ∧ Below w.heap.size w w' := by
  have CN := Aside0.mk (new_calls_ok (some ad) c0 l0 w hr0 hc0 ht)
  have HT := Aside0.mk ht
  have CC := Aside0.mk (fun W (hW : Below w.heap.size w W) => clone_calls ad c0 l0 W (Kd.C_below hr0 hW) (by have := ht.2.1; omega))
  clear hr0 hc0 ht
  go_enter Tryz.func12, Tryz.ntmps12
  go_wp2_with (first | (go_at_call 30; (with_reducible refine CN.out.mono ?_); rintro e w1 ⟨b, a, mm, rfl, htab, hb, hb1, hb2⟩; have T1 := Aside0.mk htab; have B1 := Aside0.mk hb; have L1 := Aside0.mk (And.intro hb1 hb2); clear htab hb hb1 hb2) | (go_at_call 31; (with_reducible refine (CC.out _ B1.out).mono ?_); rintro e w2 ⟨v, rfl, ho, hb⟩; obtain ⟨A2, c2, rfl⟩ := Kd.R_slice ho; have B2 := Aside0.mk (below_step B1.out hb); have T2 := Aside0.mk (T1.out.below hb); clear ho hb))
  have hz : ((Tryz.zeroCells60.setIfInBounds 0 (.slice A2 l0.length c2)).setIfInBounds 1 (.pointer (some ⟨b, 0, none⟩)) : Array Value) = pcells (.slice A2 l0.length c2) b (fun _ => .pointer none) := by kernel_rfl
  rw [hz]
  have N3 := Aside0.mk (show (w2.alloc (.cells (pcells (.slice A2 l0.length c2) b (fun _ => .pointer none)) 60 (0, 0))).heap[w2.heap.size]? = some (.cells (pcells (.slice A2 l0.length c2) b (fun _ => .pointer none)) 60 (0, 0)) from blk_new w2 _)
  have B3 := Aside0.mk (show Below w.heap.size w (w2.alloc (.cells (pcells (.slice A2 l0.length c2) b (fun _ => .pointer none)) 60 (0, 0))) from below_alloc B2.out _)
  have T3 := Aside0.mk (T2.out.below (show Below w2.heap.size w2 (w2.alloc (.cells (pcells (.slice A2 l0.length c2) b (fun _ => .pointer none)) 60 (0, 0))) from below_alloc (Below.refl _ _) _))
  have LG := Aside0.mk (And.intro B2.out.size (And.intro (blk_lt T2.out.blk) (World.block_lt_of_cell? w2 ⟨a, 0, none⟩ (T2.out.ca 0 (by rw [aw_len]; have := HT.out.1; omega)))))
  clear T1 T2 B1 B2 hz
  generalize (w2.alloc (.cells (pcells (.slice A2 l0.length c2) b (fun _ => .pointer none)) 60 (0, 0))) = W3 at N3 B3 T3 ⊢
  generalize w2.heap.size = g at N3 LG ⊢
  generalize pcells (.slice A2 l0.length c2) b (fun _ => .pointer none) = pc at ⊢
  go_loopw [7, 21] (fun v7 v21 wr => ∃ (k : Nat) (q r : Nat → Nat), k ≤ 8 ∧ v21 = .int .i64 k ∧ Aside0 (wr.heap[g]? = some (.cells (pcells (.slice A2 l0.length c2) b (fun i => if i < k then .pointer (some ⟨q i, 0, none⟩) else .pointer none)) 60 (0, 0))) ∧ Aside0 (∀ i, i < k → wr.heap[q i]? = some (.cells #[.int .i64 64, .slice none 0 0, .map (some (r i))] 92 (0, 0)) ∧ g < q i) ∧ Aside0 (Tab wr b a mm (aw l0 l0.length) (List.replicate 8 0) (List.replicate 8 0)) ∧ Aside0 (Below w.heap.size w wr)) (fun _ k _ => 8 - (intOf k).toNat)
  case atStart => exact ⟨0, fun _ => 0, fun _ => 0, by omega, rfl, ⟨N3.out⟩, ⟨fun i hi => absurd hi (by omega)⟩, T3, B3⟩
  case round =>
    obtain ⟨k, q, r, hk, rfl, NB, NQ, TB, BB⟩ := hrel
    have hk0 : (0 : Int) ≤ (k : Int) := by omega
    by_cases hlt : k < 8
    · have hlt1 : (k : Int) < 8 := by omega
      go_upto_region 8 with (fail)
      go_region_with (first | (go_at_call 32; (with_reducible refine (qnew_calls _).mono ?_); rintro e w4 ⟨qn, rn, rfl, hq, hlq, hb⟩; have N4 := Aside0.mk (blk_below NB.out (below_step (below_drew (Below.refl _ _)) hb)); have z4 := (blk_cell N4.out (2 + k * 10 + 7)).trans (pcells_at _ _ _ k hlt); have f4 := blk_frozen N4.out (2 + k * 10 + 7); have B4 := Aside0.mk (below_step (below_drew (Below.refl _ _)) hb); have Q4 := Aside0.mk (And.intro hq hlq); clear hq hlq hb))
      go_wp2
      go_roundw
      case measure => simp [intOf]; omega
      case rel =>
        have hg : g < wr.heap.size := blk_lt NB.out
        have hq : qn ≠ g := by have h := Q4.out.2; have h' : wr.drew.heap.size = wr.heap.size := rfl; omega
        refine ⟨k + 1, fun i => if i = k then qn else q i, fun i => if i = k then rn else r i, by omega, by go_num, ⟨?_⟩, ⟨fun i hi => ?_⟩, ⟨?_⟩, ⟨?_⟩⟩
        · refine blk_put N4.out (2 + k * 10 + 7) _ ((pcells_set _ _ _ k hlt _).trans ?_)
          congr 1
          funext i
          by_cases e : i = k
          · simp only [e, if_true, Nat.lt_succ_self]
          · simp only [e, if_false]
            by_cases e2 : i < k
            · rw [if_pos e2, if_pos (by omega)]
            · rw [if_neg e2, if_neg (by omega)]
        · by_cases e : i = k
          · simp only [e, if_true]
            exact ⟨blk_far Q4.out.1 (p := ⟨g, 2 + k * 10 + 7, none⟩) hq _, by have h := Q4.out.2; have h' : wr.drew.heap.size = wr.heap.size := rfl; omega⟩
          · simp only [e, if_false]
            have h := NQ.out i (by omega)
            exact ⟨blk_far (blk_below h.1 B4.out) (p := ⟨g, 2 + k * 10 + 7, none⟩) (by show q i ≠ g; omega) _, h.2⟩
        · exact (TB.out.below B4.out).but (S := fun x => x = g) (But.set (S := fun x => x = g) (But.refl _ _) (p := ⟨g, 2 + k * 10 + 7, none⟩) rfl _) (by have := LG.out; omega) (by have := LG.out.2.2; have h : a < g := this; omega)
        · exact below_put (below_step BB.out B4.out) LG.out.1 _
    · obtain rfl : k = 8 := by omega
      go_wp2
      go_ret2
      refine ⟨⟨w.heap.size, g, b, a, mm, .slice A2 l0.length c2, q, r, aw l0 l0.length⟩, rfl, ⟨?_, TB.out, fun i hi => (NQ.out i hi).1, LG.out.1, L1.out.1, ?_, ?_, fun i hi => ?_, fun i hi => ?_⟩, rfl, aw_len _ _, BB.out⟩
      · exact NB.out
      · show b ≠ g
        have := LG.out
        omega
      · show a ≠ g
        have h : a < g := LG.out.2.2
        omega
      · show q i ≠ g
        have := (NQ.out i hi).2
        omega
      · show q i ≠ b
        have := (NQ.out i hi).2
        have := LG.out.2.1
        omega
end Go.Proofs.YtaaaocckfnlgdaaGreatDoorT
