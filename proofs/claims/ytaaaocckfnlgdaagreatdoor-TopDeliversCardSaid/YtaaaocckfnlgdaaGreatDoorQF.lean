import Derived.Test.YtaaaocckfnlgdaaGreatDoorRtiE
import Derived.Test.YtaaaocckfnlgdaaGreatDoorRtiC
import Derived.Test.YtaaaocckfnlgdaaGreatDoorRtiD
import Derived.Test.YtaaaocckfnlgdaaGreatDoorPair
/- A new federation: what its second queue and its table hold. Printed by wip/top/mkpairq.py. -/
namespace Go.Proofs.YtaaaocckfnlgdaaGreatDoorT
open Go.RowKit Go.Proofs.YtaaaocckfnlgdaaGreatDoorW.PrintWords Go.Proofs.YtaaaocckfnlgdaaGreatDoorW.PrintLast Go.Proofs.YtaaaocckfnlgdaaGreatDoorW.PrintMore Go.Proofs.YtaaaocckfnlgdaaGreatDoorU Go.Proofs.YtaaaocckfnlgdaaGreatDoor.PBase
set_option maxRecDepth 100000
set_option linter.unusedVariables false
set_option linter.unusedSimpArgs false
/-- The second queue's map is empty; all of it is new. -/
structure Ex (w : World) (d : Ad) : Prop where
  map1 : ∃ c, w.heap[d.r 1]? = some (.map #[] c)
  q1 : d.base ≤ d.q 1
  r1 : d.base ≤ d.r 1
  qd : ∀ i, i < 8 → i ≠ 1 → d.q i ≠ d.q 1
theorem Ex.but {S : Nat → Prop} {w w' : World} {d : Ad} (H : Ex w d) (h : But S w w') (hn : ¬ S (d.r 1)) : Ex w' d :=
  { H with map1 := by obtain ⟨c, hc⟩ := H.map1; exact ⟨c, h.blk hc hn⟩ }
theorem Ex.ne {w : World} {d : Ad} (H : Ex w d) {g t : Nat} {cs : Array Value} (h : w.heap[g]? = some (.cells cs t (0, 0))) : d.r 1 ≠ g := fun e => by
  obtain ⟨c, hc⟩ := H.map1
  rw [e, h] at hc
  cases hc
set_option maxHeartbeats 1000000 in
theorem qnewq_calls (w : World) : Calls Tryz.prog 32 #[.int .i64 64] w fun e w' => ∃ q r, e = .returned (.pointer (some ⟨q, 0, none⟩)) ∧ w'.heap[q]? = some (.cells #[.int .i64 64, .slice none 0 0, .map (some r)] 92 (0, 0)) ∧ w.heap.size ≤ q ∧ (w'.heap[r]? = some (.map #[] 0) ∧ w.heap.size ≤ r) ∧ Below w.heap.size w w' := by
  have hmm := @run_makeMap Tryz.prog
  go_enter Tryz.func32, Tryz.ntmps32
  go_wp2
  go_ret
  refine ⟨_, w.heap.size, rfl, by have h := blk_new (w.alloc (.map #[] 0)) (.cells #[.int .i64 64, .slice none 0 0, .map (some w.heap.size)] 92 (0, 0)); simpa using h, ?_, ⟨by have h := blk_alloc (blk_new w (.map #[] 0)) (.cells #[.int .i64 64, .slice none 0 0, .map (some w.heap.size)] 92 (0, 0)); simpa using h, Nat.le_refl _⟩, below_alloc (below_alloc (Below.refl _ w) _) _⟩
  simp
set_option maxHeartbeats 2000000 in
/-- A new federation over a tree of classes. -/
theorem rnewq_calls (ad : Addr) (c0 : Nat) (l0 : List Int) (w : World) (hr0 : Kd.C (Kd.int .i64) w (some ad) l0.length l0) (hc0 : l0.length ≤ c0) (ht : Tree l0) :
    Calls Tryz.prog 12 #[.slice (some ad) l0.length c0] w fun e w' => ∃ d : Ad, e = .returned (.tuple #[.pointer (some ⟨d.g, 0, none⟩), .int .i64 0]) ∧ Rt w' d (List.replicate 8 0) (List.replicate 8 0) (fun _ => tm0) ∧ d.base = w.heap.size ∧ d.ab = aw l0 l0.length ∧ Ex w' d ∧ Below w.heap.size w w' := by
  have CN := Aside0.mk (new_calls_ok (some ad) c0 l0 w hr0 hc0 ht)
  have HT := Aside0.mk ht
  have CC := Aside0.mk (fun W (hW : Below w.heap.size w W) => clone_calls ad c0 l0 W (Kd.C_below hr0 hW) (by have := ht.2.1; omega))
  clear hr0 hc0 ht
  go_enter Tryz.func12, Tryz.ntmps12
  go_wp2_with (first | (go_at_call 30; (with_reducible refine CN.out.mono ?_); rintro e w1 ⟨b, a, mm, rfl, htab, hb, hb1, hb2⟩; have T1 := Aside0.mk htab; have B1 := Aside0.mk hb; have L1 := Aside0.mk (And.intro hb1 hb2); clear htab hb hb1 hb2) | (go_at_call 31; (with_reducible refine (CC.out _ B1.out).mono ?_); rintro e w2 ⟨v, rfl, ho, hb⟩; obtain ⟨A2, c2, rfl⟩ := Kd.R_slice ho; have B2 := Aside0.mk (below_step B1.out hb); have T2 := Aside0.mk (T1.out.below hb); clear ho hb))
  have hz : ((Tryz.zeroCells60.setIfInBounds 0 (.slice A2 l0.length c2)).setIfInBounds 1 (.pointer (some ⟨b, 0, none⟩)) : Array Value) = pcells (.slice A2 l0.length c2) b (fun _ => .pointer none) := by kernel_rfl
  rw [hz]
  have N3 := Aside0.mk (show (w2.alloc (.cells (pcells (.slice A2 l0.length c2) b (fun _ => .pointer none)) 60 (0, 0))).heap[w2.heap.size]? = some (.cells (pcells (.slice A2 l0.length c2) b (fun _ => .pointer none)) 60 (0, 0)) from blk_new w2 _)
  have B3 := Aside0.mk (show Below w.heap.size w (w2.alloc (.cells (pcells (.slice A2 l0.length c2) b (fun _ => .pointer none)) 60 (0, 0))) from below_alloc B2.out _)
  have T3 := Aside0.mk (T2.out.below (show Below w2.heap.size w2 (w2.alloc (.cells (pcells (.slice A2 l0.length c2) b (fun _ => .pointer none)) 60 (0, 0))) from below_alloc (Below.refl _ _) _))
  have LG := Aside0.mk (And.intro B2.out.size (And.intro (blk_lt T2.out.blk) (World.block_lt_of_cell? w2 ⟨a, 0, none⟩ (T2.out.ca 0 (by rw [aw_len]; have := HT.out.1; omega)))))
  clear T1 T2 B1 B2 hz
  generalize (w2.alloc (.cells (pcells (.slice A2 l0.length c2) b (fun _ => .pointer none)) 60 (0, 0))) = W3 at N3 B3 T3 ⊢
  generalize w2.heap.size = g at N3 LG ⊢
  generalize pcells (.slice A2 l0.length c2) b (fun _ => .pointer none) = pc at ⊢
  go_loopw [7, 21] (fun v7 v21 wr => ∃ (k : Nat) (q r : Nat → Nat), k ≤ 8 ∧ v21 = .int .i64 k ∧ Aside0 (wr.heap[g]? = some (.cells (pcells (.slice A2 l0.length c2) b (fun i => if i < k then .pointer (some ⟨q i, 0, none⟩) else .pointer none)) 60 (0, 0))) ∧ Aside0 (∀ i, i < k → wr.heap[q i]? = some (.cells #[.int .i64 64, .slice none 0 0, .map (some (r i))] 92 (0, 0)) ∧ g < q i) ∧ Aside0 (∀ i, i < k → wr.heap[r i]? = some (.map #[] 0) ∧ g < r i ∧ ∀ j, j < k → i ≠ j → q i ≠ q j) ∧ Aside0 (Tab wr b a mm (aw l0 l0.length) (List.replicate 8 0) (List.replicate 8 0)) ∧ Aside0 (Below w.heap.size w wr)) (fun _ k _ => 8 - (intOf k).toNat)
  case atStart => exact ⟨0, fun _ => 0, fun _ => 0, by omega, rfl, ⟨N3.out⟩, ⟨fun i hi => absurd hi (by omega)⟩, ⟨fun i hi => absurd hi (by omega)⟩, T3, B3⟩
  case round =>
    obtain ⟨k, q, r, hk, rfl, NB, NQ, NM, TB, BB⟩ := hrel
    have hk0 : (0 : Int) ≤ (k : Int) := by omega
    by_cases hlt : k < 8
    · have hlt1 : (k : Int) < 8 := by omega
      go_upto_region 8 with (fail)
      go_region_with (first | (go_at_call 32; (with_reducible refine (qnewq_calls _).mono ?_); rintro e w4 ⟨qn, rn, rfl, hq, hlq, hmq, hb⟩; have M4 := Aside0.mk hmq; clear hmq; have N4 := Aside0.mk (blk_below NB.out (below_step (below_drew (Below.refl _ _)) hb)); have z4 := (blk_cell N4.out (2 + k * 10 + 7)).trans (pcells_at _ _ _ k hlt); have f4 := blk_frozen N4.out (2 + k * 10 + 7); have B4 := Aside0.mk (below_step (below_drew (Below.refl _ _)) hb); have Q4 := Aside0.mk (And.intro hq hlq); clear hq hlq hb))
      go_wp2
      go_roundw
      case measure => simp [intOf]; omega
      case rel =>
        have hg : g < wr.heap.size := blk_lt NB.out
        have hq : qn ≠ g := by have h := Q4.out.2; have h' : wr.drew.heap.size = wr.heap.size := rfl; omega
        refine ⟨k + 1, fun i => if i = k then qn else q i, fun i => if i = k then rn else r i, by omega, by go_num, ⟨?_⟩, ⟨fun i hi => ?_⟩, ⟨fun i hi => ?_⟩, ⟨?_⟩, ⟨?_⟩⟩
        · refine blk_put N4.out (2 + k * 10 + 7) _ ((pcells_set _ _ _ k hlt _).trans ?_)
          congr 1
          funext i
          by_cases e : i = k
          · simp only [e, if_true, Nat.lt_succ_self]
          · simp only [e, if_false]
            by_cases e2 : i < k
            · rw [if_pos e2, if_pos (by omega)]
            · rw [if_neg e2, if_neg (by omega)]
        · by_cases e : i = k
          · simp only [e, if_true]
            exact ⟨blk_far Q4.out.1 (p := ⟨g, 2 + k * 10 + 7, none⟩) hq _, by have h := Q4.out.2; have h' : wr.drew.heap.size = wr.heap.size := rfl; omega⟩
          · simp only [e, if_false]
            have h := NQ.out i (by omega)
            exact ⟨blk_far (blk_below h.1 B4.out) (p := ⟨g, 2 + k * 10 + 7, none⟩) (by show q i ≠ g; omega) _, h.2⟩
        · have hd : ∀ i, i < k → q i ≠ qn := fun i hi e => by
            have h1 := blk_lt (NQ.out i hi).1
            have h2 := Q4.out.2
            have h' : wr.drew.heap.size = wr.heap.size := rfl
            omega
          have hs : ∀ (x : Nat), x ≠ g → ∀ o, w4.heap[x]? = some o → (w4.setCell ⟨g, 2 + k * 10 + 7, none⟩ (.pointer (some ⟨qn, 0, none⟩))).heap[x]? = some o := fun x hx o ho => (Below.heap_setCell w4 ⟨g, 2 + k * 10 + 7, none⟩ _ x hx).trans ho
          have h' : wr.drew.heap.size = wr.heap.size := rfl
          have hrn := M4.out.2
          refine ⟨?_, ?_, fun j hj hne => ?_⟩
          · by_cases e : i = k
            · simp only [e, if_true]
              exact hs _ (by omega) _ M4.out.1
            · simp only [e, if_false]
              have h := NM.out i (by omega)
              exact hs _ (by omega) _ (blk_below h.1 B4.out)
          · by_cases e : i = k
            · simp only [e, if_true]
              omega
            · simp only [e, if_false]
              exact (NM.out i (by omega)).2.1
          · by_cases e : i = k
            · have e2 : j ≠ k := by omega
              simp only [e, e2, if_true, if_false]
              exact (hd j (by omega)).symm
            · by_cases e2 : j = k
              · simp only [e, e2, if_true, if_false]
                exact hd i (by omega)
              · simp only [e, e2, if_false]
                exact (NM.out i (by omega)).2.2 j (by omega) hne
        · exact (TB.out.below B4.out).but (S := fun x => x = g) (But.set (S := fun x => x = g) (But.refl _ _) (p := ⟨g, 2 + k * 10 + 7, none⟩) rfl _) (by have := LG.out; omega) (by have := LG.out.2.2; have h : a < g := this; omega)
        · exact below_put (below_step BB.out B4.out) LG.out.1 _
    · obtain rfl : k = 8 := by omega
      go_wp2
      go_ret2
      refine ⟨⟨w.heap.size, g, b, a, mm, .slice A2 l0.length c2, q, r, aw l0 l0.length⟩, rfl, ⟨?_, TB.out, fun i hi => (NQ.out i hi).1, LG.out.1, L1.out.1, ?_, ?_, fun i hi => ?_, fun i hi => ?_⟩, rfl, rfl, ⟨⟨0, (NM.out 1 (by omega)).1⟩, ?_, ?_, fun i hi hne => (NM.out i hi).2.2 1 (by omega) hne⟩, BB.out⟩
      · exact NB.out
      · show b ≠ g
        have := LG.out
        omega
      · show a ≠ g
        have h : a < g := LG.out.2.2
        omega
      · show q i ≠ g
        have := (NQ.out i hi).2
        omega
      · show q i ≠ b
        have := (NQ.out i hi).2
        have := LG.out.2.1
        omega
      · show w.heap.size ≤ q 1
        have := (NQ.out 1 (by omega)).2
        have := LG.out.1
        omega
      · show w.heap.size ≤ r 1
        have := (NM.out 1 (by omega)).2.1
        have := LG.out.1
        omega
end Go.Proofs.YtaaaocckfnlgdaaGreatDoorT
/- Two federates that regulate and are constrained: what their table and the second one's queue hold. Printed by wip/top/mkpairq.py. -/
namespace Go.Proofs.YtaaaocckfnlgdaaGreatDoorT
open Go.RowKit Go.Proofs.YtaaaocckfnlgdaaGreatDoorW.PrintWords Go.Proofs.YtaaaocckfnlgdaaGreatDoorW.PrintLast Go.Proofs.YtaaaocckfnlgdaaGreatDoorW.PrintMore Go.Proofs.YtaaaocckfnlgdaaGreatDoorU Go.Proofs.YtaaaocckfnlgdaaGreatDoor.PBase
set_option maxRecDepth 100000
set_option linter.unusedVariables false
set_option linter.unusedSimpArgs false
/-- Who publishes (or hears) the one class, i of the two having done so. -/
def wAt (n i : Nat) : List Int := match i with
  | 0 => List.replicate 8 0
  | 1 => putW n (List.replicate 8 0) 0 0 true
  | _ => putW n (putW n (List.replicate 8 0) 0 0 true) 1 0 true
theorem pubQ0 {w : World} {d : Ad} {ps ss : List Int} {x : TM} (H : Rt w d ps ss (stM (⟨true, false, 0, 0, 0, 0, 0, 0⟩) x)) (hc : 1 ≤ d.ab.length) :
    Calls Tryz.prog 14 #[.pointer (some ⟨d.g, 0, none⟩), .int .i64 0, .int .i64 0, .bool true] w (Turns d (putW d.ab.length ps 0 0 true) ss (stM (⟨true, false, 0, 0, 0, 0, 0, 0⟩) x) w) :=
  publish0 H rfl hc
theorem subQ0 {w : World} {d : Ad} {ps ss : List Int} {x : TM} (H : Rt w d ps ss (stM (⟨true, false, 0, 0, 0, 0, 0, 0⟩) x)) (hc : 1 ≤ d.ab.length) :
    Calls Tryz.prog 15 #[.pointer (some ⟨d.g, 0, none⟩), .int .i64 0, .int .i64 0, .bool true] w fun e w' => ∃ s, Turns d ps (putW d.ab.length ss 0 0 true) (stM (⟨true, false, 0, 0, 0, 0, 0, s⟩) x) w e w' :=
  (subscribe0 H rfl hc).mono (fun e w' h => by
    obtain ⟨s, h⟩ := h
    rw [stM_set0] at h
    exact ⟨s, h⟩)
theorem pubQ1 {w : World} {d : Ad} {ps ss : List Int} {x : TM} (H : Rt w d ps ss (stM x (⟨true, false, 0, 0, 0, 0, 0, 0⟩))) (hc : 1 ≤ d.ab.length) :
    Calls Tryz.prog 14 #[.pointer (some ⟨d.g, 0, none⟩), .int .i64 1, .int .i64 0, .bool true] w (Turns d (putW d.ab.length ps 1 0 true) ss (stM x (⟨true, false, 0, 0, 0, 0, 0, 0⟩)) w) :=
  publish1 H rfl hc
theorem subQ1 {w : World} {d : Ad} {ps ss : List Int} {x : TM} (H : Rt w d ps ss (stM x (⟨true, false, 0, 0, 0, 0, 0, 0⟩))) (hc : 1 ≤ d.ab.length) :
    Calls Tryz.prog 15 #[.pointer (some ⟨d.g, 0, none⟩), .int .i64 1, .int .i64 0, .bool true] w fun e w' => ∃ s, Turns d ps (putW d.ab.length ss 1 0 true) (stM x (⟨true, false, 0, 0, 0, 0, 0, s⟩)) w e w' :=
  (subscribe1 H rfl hc).mono (fun e w' h => by
    obtain ⟨s, h⟩ := h
    rw [stM_set1] at h
    exact ⟨s, h⟩)
set_option maxHeartbeats 4000000 in
theorem pairq_calls (a b : Int) (ha : 1 ≤ a ∧ a ≤ 1048576) (hb : 1 ≤ b ∧ b ≤ 1048576) (w : World) :
    Calls Tryz.prog 6 #[.int .i64 a, .int .i64 b] w fun e w' => ∃ d s0 s1, e = .returned (.pointer (some ⟨d.g, 0, none⟩)) ∧ Rt w' d (wAt 1 2) (wAt 1 2) (stM (mem2 a s0) (mem2 b s1)) ∧ Ex w' d ∧ d.ab = [1] ∧ w.heap.size ≤ d.base ∧ Below w.heap.size w w' := by
  have Ha := Aside0.mk ha
  have Hb := Aside0.mk hb
  clear ha hb
  have hn := (rnewq_calls ⟨w.heap.size, 0, none⟩ 1 [-1] (w.alloc (.cells #[.int .i64 (-1)] 3 (0, 0))) (one_row w.heap.size _ ((blk_cell (blk_new w (.cells #[.int .i64 (-1)] 3 (0, 0))) 0).trans rfl)) (Nat.le_refl _) tree_one)
  rw [show ([-1] : List Int).length = 1 from rfl] at hn
  have CN := Aside0.mk hn
  clear hn
  have B0 := Aside0.mk (show Below w.heap.size w (w.alloc (.cells #[.int .i64 (-1)] 3 (0, 0))) from below_alloc (Below.refl _ _) _)
  have Z0 := Aside0.mk (show (w.alloc (.cells #[.int .i64 (-1)] 3 (0, 0))).heap.size = w.heap.size + 1 by simp)
  go_enter Tryz.func6, Tryz.ntmps6
  go_upto_region 6 with (go_at_call 12; (with_reducible refine CN.out.mono ?_); rintro e w1 ⟨d, rfl, hr, hbase, hab, hex, hb⟩; rw [stM_none] at hr; have R1 := Aside0.mk hr; have B1 := Aside0.mk (below_step B0.out hb); have HD := Aside0.mk (And.intro hbase hab); have X1 := Aside0.mk hex; clear hr hb hbase hab hex)
  have NW := Aside0.mk (show (w1.alloc (.cells #[.int .i64 a, .int .i64 b] 3 (0, 0))).heap[w1.heap.size]? = some (.cells #[.int .i64 a, .int .i64 b] 3 (0, 0)) from blk_new w1 _)
  have R2 := Aside0.mk (R1.out.below (show Below w1.heap.size w1 (w1.alloc (.cells #[.int .i64 a, .int .i64 b] 3 (0, 0))) from below_alloc (Below.refl _ _) _))
  have B2 := Aside0.mk (show Below w.heap.size w (w1.alloc (.cells #[.int .i64 a, .int .i64 b] 3 (0, 0))) from below_alloc B1.out _)
  have GL := Aside0.mk (show ¬ (w1.heap.size = d.g ∨ w1.heap.size = d.bt) from fun h => by
    have h1 := blk_lt R1.out.blk
    have h2 := blk_lt R1.out.tab.blk
    omega)
  have HS := Aside0.mk (show ∀ k, (k = d.g ∨ k = d.bt) → w.heap.size ≤ k from fun k hk => by
    have h0 := HD.out.1
    have h1 := R1.out.g0
    have h2 := R1.out.t0
    have h3 := Z0.out
    omega)
  have DA := Aside0.mk (show d.ab = [1] from HD.out.2)
  have AB := Aside0.mk (show 1 ≤ d.ab.length from by rw [DA.out]; decide)
  have AE := Aside0.mk (show d.ab.length = 1 from by rw [DA.out]; rfl)
  have X2 := Aside0.mk (X1.out.but (But.of_below (S := fun _ => False) (show Below w1.heap.size w1 (w1.alloc (.cells #[.int .i64 a, .int .i64 b] 3 (0, 0))) from below_alloc (Below.refl _ _) _)) id)
  have XN := Aside0.mk (show ¬ (d.r 1 = d.g ∨ d.r 1 = d.bt) from fun h => h.elim (X1.out.ne R1.out.blk) (X1.out.ne R1.out.tab.blk))
  have HB := Aside0.mk (show w.heap.size ≤ d.base from by have h0 := HD.out.1; have h3 := Z0.out; omega)
  clear R1 B1 CN B0 Z0 HD X1
  generalize (w1.alloc (.cells #[.int .i64 a, .int .i64 b] 3 (0, 0))) = w2 at NW R2 B2 X2 ⊢
  generalize w1.heap.size = gl at NW GL ⊢
  go_wp2
  go_loopw [9] (fun v9 wr => ∃ i : Nat, i ≤ 2 ∧ v9 = .int .i64 i ∧ Aside0 (wr.heap[gl]? = some (.cells #[.int .i64 a, .int .i64 b] 3 (0, 0))) ∧ (∃ s0 s1, Rt wr d (wAt d.ab.length i) (wAt d.ab.length i) (pairAt a b i s0 s1)) ∧ Aside0 (Ex wr d) ∧ Aside0 (Below w.heap.size w wr)) (fun i _ => 2 - (intOf i).toNat)
  case atStart => exact ⟨0, by omega, rfl, NW, ⟨0, 0, R2.out⟩, X2, B2⟩
  case round =>
    clear NW R2 B2 X2
    obtain ⟨i, hi, rfl, NW, ⟨s0, s1, hr⟩, XW, BW⟩ := hrel
    match i, hi, hr with
    | 0, _, hr =>
      have RR := Aside0.mk (show Rt wr d (wAt d.ab.length 0) (wAt d.ab.length 0) (stM tm0 tm0) from hr)
      clear hr
      have BD := Aside0.mk (fun (y : TM) (s : Int) => show lbts_Lbts.f 9 (memL (stM y tm0) 8) 0 = some 1125899906842624 from bound_inf (stM y tm0) (stM_still y tm0) 1 (by decide) rfl)
      go_upto_region 9 with (fail)
      go_wp2_with (first | (go_at_call 13; (with_reducible refine (joinP0 RR.out).mono ?_); rintro e wa ⟨rfl, hr, hb⟩; have Ra := Aside0.mk hr; have Na := Aside0.mk (hb.blk NW.out GL.out); have Xa := Aside0.mk (XW.out.but hb XN.out); have Ba := Aside0.mk (But.below BW.out hb BW.out.size HS.out); clear hr hb) | (go_at_call 14; (with_reducible refine (pubQ0 Ra.out AB.out).mono ?_); rintro e wb ⟨rfl, hr, hb⟩; have Rb := Aside0.mk hr; have Nb := Aside0.mk (hb.blk Na.out GL.out); have Xb := Aside0.mk (Xa.out.but hb XN.out); have Bb := Aside0.mk (But.below Ba.out hb Ba.out.size HS.out); clear hr hb) | (go_at_call 15; (with_reducible refine (subQ0 Rb.out AB.out).mono ?_); rintro e wc ⟨s1, rfl, hr, hb⟩; have Rc := Aside0.mk hr; have Nc := Aside0.mk (hb.blk Nb.out GL.out); have Xc := Aside0.mk (Xb.out.but hb XN.out); have Bc := Aside0.mk (But.below Bb.out hb Bb.out.size HS.out); have z0 := (blk_cell Nc.out 0).trans rfl; clear hr hb) | (go_at_call 16; (with_reducible refine (regP0 Rc.out rfl a Ha.out.1 Ha.out.2).mono ?_); rintro e wd ⟨rfl, hr, hb⟩; have Rd := Aside0.mk hr; have Nd := Aside0.mk (hb.blk Nc.out GL.out); have Xd := Aside0.mk (Xc.out.but hb XN.out); have Bd := Aside0.mk (But.below Bc.out hb Bc.out.size HS.out); clear hr hb) | (go_at_call 17; (with_reducible refine (conP0 Rd.out _ (BD.out _ 0) (by decide)).mono ?_); rintro e we ⟨rfl, hr, hb⟩; have Re := Aside0.mk hr; have Ne := Aside0.mk (hb.blk Nd.out GL.out); have Xe := Aside0.mk (Xd.out.but hb XN.out); have Be := Aside0.mk (But.below Bd.out hb Bd.out.size HS.out); clear hr hb))
      go_roundw
      case measure => simp [intOf]
      case rel => exact ⟨1, by omega, by first | rfl | go_num, Ne, ⟨_, 0, Re.out⟩, Xe, Be⟩
    | 1, _, hr =>
      have RR := Aside0.mk (show Rt wr d (wAt d.ab.length 1) (wAt d.ab.length 1) (stM (mem2 a s0) tm0) from hr)
      clear hr
      have BD := Aside0.mk (fun (y : TM) (s : Int) => show lbts_Lbts.f 9 (memL (stM (mem2 a s0) y) 8) 1 = some (0 + a) from bound_val (stM (mem2 a s0) y) (stM_still _ _) 0 (by decide) (Or.inl rfl) Ha.out.1 Ha.out.2 (show (0 : Int) ≤ 0 by decide) (show (0 : Int) ≤ 1000000 by decide))
      go_upto_region 9 with (fail)
      go_wp2_with (first | (go_at_call 13; (with_reducible refine (joinP1 RR.out).mono ?_); rintro e wa ⟨rfl, hr, hb⟩; have Ra := Aside0.mk hr; have Na := Aside0.mk (hb.blk NW.out GL.out); have Xa := Aside0.mk (XW.out.but hb XN.out); have Ba := Aside0.mk (But.below BW.out hb BW.out.size HS.out); clear hr hb) | (go_at_call 14; (with_reducible refine (pubQ1 Ra.out AB.out).mono ?_); rintro e wb ⟨rfl, hr, hb⟩; have Rb := Aside0.mk hr; have Nb := Aside0.mk (hb.blk Na.out GL.out); have Xb := Aside0.mk (Xa.out.but hb XN.out); have Bb := Aside0.mk (But.below Ba.out hb Ba.out.size HS.out); clear hr hb) | (go_at_call 15; (with_reducible refine (subQ1 Rb.out AB.out).mono ?_); rintro e wc ⟨s1, rfl, hr, hb⟩; have Rc := Aside0.mk hr; have Nc := Aside0.mk (hb.blk Nb.out GL.out); have Xc := Aside0.mk (Xb.out.but hb XN.out); have Bc := Aside0.mk (But.below Bb.out hb Bb.out.size HS.out); have z0 := (blk_cell Nc.out 1).trans rfl; clear hr hb) | (go_at_call 16; (with_reducible refine (regP1 Rc.out rfl b Hb.out.1 Hb.out.2).mono ?_); rintro e wd ⟨rfl, hr, hb⟩; have Rd := Aside0.mk hr; have Nd := Aside0.mk (hb.blk Nc.out GL.out); have Xd := Aside0.mk (Xc.out.but hb XN.out); have Bd := Aside0.mk (But.below Bc.out hb Bc.out.size HS.out); clear hr hb) | (go_at_call 17; (with_reducible refine (conP1 Rd.out _ (BD.out _ 0) (by have := Ha.out.1; omega)).mono ?_); rintro e we ⟨rfl, hr, hb⟩; have Re := Aside0.mk hr; have Ne := Aside0.mk (hb.blk Nd.out GL.out); have Xe := Aside0.mk (Xd.out.but hb XN.out); have Be := Aside0.mk (But.below Bd.out hb Bd.out.size HS.out); clear hr hb))
      go_roundw
      case measure => simp [intOf]
      case rel => exact ⟨2, by omega, by first | rfl | go_num, Ne, ⟨s0, _, Re.out⟩, Xe, Be⟩
    | 2, _, hr =>
      have RR := Aside0.mk (show Rt wr d (wAt d.ab.length 2) (wAt d.ab.length 2) (stM (mem2 a s0) (mem2 b s1)) from hr)
      clear hr
      go_wp2
      go_ret
      exact ⟨d, s0, s1, rfl, by have h := RR.out; rw [AE.out] at h; exact h, XW.out, DA.out, HB.out, BW.out⟩
end Go.Proofs.YtaaaocckfnlgdaaGreatDoorT
