import Derived.Test.YtaaaocckfnlgdaaGreatDoorQB
import Derived.WalkKit
import Derived.OrdersHeld
/- A region that draws its order: S holds throughout; T is undone by the operations L (each of which waits for whatever leans on T). -/
namespace Go.Proofs.YtaaaocckfnlgdaaGreatDoorK
open Go
set_option linter.unusedVariables false
section
variable {P : Program} {ops : Array Oper} {Q : Exit → Act → World → Prop} {md : Region.Mode} {S T : World → Prop} {L : List Nat}

/-- Whatever order is picked from here on; S holds behind each that is carried out, but for number L. -/
def Till (P : Program) (md : Region.Mode) (ops : Array Oper) (Q : Exit → Act → World → Prop) (S T : World → Prop) (L : List Nat) : Nat → Array Bool → Act → World → Prop
  | 0, listed, a, w => Region.ready md ops listed = [] ∧ Q .normal a w
  | fuel + 1, listed, a, w =>
    (Region.ready md ops listed = [] → Q .normal a w) ∧
    ∀ i ∈ Region.ready md ops listed, wpOp P ops Q i (fun a' w' => (S w' ∧ (L.contains i = false → T w → T w')) ∧ Till P md ops Q S T L fuel (listed.setIfInBounds i true) a' w') a w

theorem Till.any : ∀ (fuel : Nat) (listed : Array Bool) (a : Act) (w : World), Till P md ops Q S T L fuel listed a w → wpAny P md ops Q fuel listed a w
  | 0, _, _, _, h => h
  | fuel + 1, _, _, _, h => ⟨h.1, fun i hi => wpOp_mono (fun a' w' h' => Till.any fuel _ a' w' h'.2) (h.2 i hi)⟩

/-- Does number j wait for number i? -/
def waits (md : Region.Mode) (ops : Array Oper) (j i : Nat) : Bool :=
  match ops[j]? with
  | none => true
  | some o => o.after.any fun e => Region.binds md e && e.on == i

theorem Till.first {i : Nat} {oi : Oper} {v : Value} (hi : ops[i]? = some oi) (hsel : ∀ (j : Nat) (o : Oper) cs b, ops[j]? = some o → o.op ≠ .select cs b)
    (hQ : ∀ c a w, Q (.panic c) (a.put oi.dst v) w → Q (.panic c) a w) (hL : ∀ j ∈ L, waits md ops j i = true) :
    ∀ (fuel : Nat) (listed : Array Bool) (a : Act) (w : World),
      (∀ j oj, ops[j]? = some oj → j ≠ i → listed.getD j true = false → (∀ e ∈ oj.after, Region.binds md e = true → e.on ≠ i) → oi.apart ops oj = true) →
      i ∈ Region.ready md ops listed → YieldsIf P ops (fun w => S w ∧ T w) oi v a → S w → T w →
      Till P md ops Q S T L fuel (listed.setIfInBounds i true) (a.put oi.dst v) w → Till P md ops Q S T L (fuel + 1) listed a w := by
  intro fuel
  induction fuel with
  | zero =>
    intro listed a w _ hr hy hS hT H
    refine ⟨fun h => (by rw [h] at hr; cases hr), fun j hj => ?_⟩
    by_cases hji : j = i
    · subst hji
      exact hy.wpOp hi ⟨hS, hT⟩ ⟨⟨hS, fun _ h => h⟩, H⟩
    · have := ready_mono hj hji
      rw [H.1] at this
      cases this
  | succ fuel ih =>
    intro listed a w hfree hr hy hS hT H
    refine ⟨fun h => (by rw [h] at hr; cases hr), fun j hj => ?_⟩
    by_cases hji : j = i
    · subst hji
      exact hy.wpOp hi ⟨hS, hT⟩ ⟨⟨hS, fun _ h => h⟩, H⟩
    · have h1 := H.2 j (ready_mono hj hji)
      obtain ⟨hjun, oj, hoj, hall⟩ := mem_ready.1 hj
      have hnot : ∀ e ∈ oj.after, Region.binds md e = true → e.on ≠ i := fun e he hb heq => by
        have h1 := hall e he hb
        have h0 := (mem_ready.1 hr).1
        rw [heq] at h1
        rcases Nat.lt_or_ge i listed.size with h' | h'
        · simp [h'] at h0 h1
          rw [h0] at h1
          cases h1
        · simp [Array.getElem?_eq_none h'] at h1
      have hjL : L.contains j = false := by
        cases hc : L.contains j with
        | false => rfl
        | true =>
        exfalso
        have hL := hL j (by simpa using hc)
        unfold waits at hL
        rw [hoj] at hL
        obtain ⟨e, he, hb⟩ := Array.any_eq_true'.1 hL
        simp only [Bool.and_eq_true, beq_iff_eq] at hb
        exact hnot e he hb.1 hb.2
      have h2 := wpOp_putIf hoj (hfree j oj hoj hji hjun hnot) (fun cs b => hsel i oi cs b hi) (fun cs b => hsel j oj cs b hoj) hQ hy h1
      have hfree' : ∀ k ok, ops[k]? = some ok → k ≠ i → (listed.setIfInBounds j true).getD k true = false →
          (∀ e ∈ ok.after, Region.binds md e = true → e.on ≠ i) → oi.apart ops ok = true := fun k ok hk hki hun hno => by
        refine hfree k ok hk hki ?_ hno
        by_cases hjk : j = k
        · subst hjk
          exact hjun
        · rw [getD_set_ne true hjk] at hun
          exact hun
      refine wpOp_mono (fun a' w' h3 => ⟨h3.2.1, ih (listed.setIfInBounds j true) a' w' hfree' (ready_mono hr (Ne.symm hji)) h3.1 h3.2.1.1 (h3.2.1.2 hjL hT) ?_⟩) h2
      rw [Array.setIfInBounds_comm _ _ hji]
      exact h3.2.2

theorem Till.firstS {i : Nat} {oi : Oper} {v : Value} (hi : ops[i]? = some oi) (hsel : ∀ (j : Nat) (o : Oper) cs b, ops[j]? = some o → o.op ≠ .select cs b)
    (hQ : ∀ c a w, Q (.panic c) (a.put oi.dst v) w → Q (.panic c) a w) :
    ∀ (fuel : Nat) (listed : Array Bool) (a : Act) (w : World),
      (∀ j oj, ops[j]? = some oj → j ≠ i → listed.getD j true = false → (∀ e ∈ oj.after, Region.binds md e = true → e.on ≠ i) → oi.apart ops oj = true) →
      i ∈ Region.ready md ops listed → YieldsIf P ops S oi v a → S w →
      Till P md ops Q S T L fuel (listed.setIfInBounds i true) (a.put oi.dst v) w → Till P md ops Q S T L (fuel + 1) listed a w := by
  intro fuel
  induction fuel with
  | zero =>
    intro listed a w _ hr hy hS H
    refine ⟨fun h => (by rw [h] at hr; cases hr), fun j hj => ?_⟩
    by_cases hji : j = i
    · subst hji
      exact hy.wpOp hi hS ⟨⟨hS, fun _ h => h⟩, H⟩
    · have := ready_mono hj hji
      rw [H.1] at this
      cases this
  | succ fuel ih =>
    intro listed a w hfree hr hy hS H
    refine ⟨fun h => (by rw [h] at hr; cases hr), fun j hj => ?_⟩
    by_cases hji : j = i
    · subst hji
      exact hy.wpOp hi hS ⟨⟨hS, fun _ h => h⟩, H⟩
    · have h1 := H.2 j (ready_mono hj hji)
      obtain ⟨hjun, oj, hoj, hall⟩ := mem_ready.1 hj
      have hnot : ∀ e ∈ oj.after, Region.binds md e = true → e.on ≠ i := fun e he hb heq => by
        have h1 := hall e he hb
        have h0 := (mem_ready.1 hr).1
        rw [heq] at h1
        rcases Nat.lt_or_ge i listed.size with h' | h'
        · simp [h'] at h0 h1
          rw [h0] at h1
          cases h1
        · simp [Array.getElem?_eq_none h'] at h1
      have h2 := wpOp_putIf hoj (hfree j oj hoj hji hjun hnot) (fun cs b => hsel i oi cs b hi) (fun cs b => hsel j oj cs b hoj) hQ hy h1
      have hfree' : ∀ k ok, ops[k]? = some ok → k ≠ i → (listed.setIfInBounds j true).getD k true = false →
          (∀ e ∈ ok.after, Region.binds md e = true → e.on ≠ i) → oi.apart ops ok = true := fun k ok hk hki hun hno => by
        refine hfree k ok hk hki ?_ hno
        by_cases hjk : j = k
        · subst hjk
          exact hjun
        · rw [getD_set_ne true hjk] at hun
          exact hun
      refine wpOp_mono (fun a' w' h3 => ⟨h3.2.1, ih (listed.setIfInBounds j true) a' w' hfree' (ready_mono hr (Ne.symm hji)) h3.1 h3.2.1.1 ?_⟩) h2
      rw [Array.setIfInBounds_comm _ _ hji]
      exact h3.2.2

/-- The element at a place, written out. -/
def nth {α : Type} : List α → Nat → Option α
  | [], _ => none
  | x :: _, 0 => some x
  | _ :: l, n + 1 => nth l n
theorem nth_of {α : Type} : ∀ {l : List α} {n : Nat} {x : α}, nth l n = some x → l[n]? = some x
  | [], _, _, h => by cases h
  | _ :: _, 0, _, h => by simpa [nth] using h
  | _ :: l, n + 1, _, h => by simpa using nth_of (l := l) h
theorem nth_ops {ops : Array Oper} {n : Nat} {o : Oper} (h : nth ops.toList n = some o) : ops[n]? = some o := by
  have := nth_of h
  simpa using this
/-- Number i is taken first: it yields v in every world that meets S and T. -/
theorem Till.take (i : Nat) {oi : Oper} {v : Value} {fuel : Nat} {listed : Array Bool} {a : Act} {w : World} (hi' : nth ops.toList i = some oi)
    (hs : Region.noSelect ops = true) (hf : Region.free md ops listed i = true) (hr : (Region.ready md ops listed).contains i = true) (hL : (L.all fun j => waits md ops j i) = true)
    (hQ : ∀ c a w, Q (.panic c) (a.put oi.dst v) w → Q (.panic c) a w) (hy : YieldsIf P ops (fun w => S w ∧ T w) oi v a) (hS : S w) (hT : T w)
    (h : Till P md ops Q S T L fuel (listed.setIfInBounds i true) (a.put oi.dst v) w) : Till P md ops Q S T L (fuel + 1) listed a w :=
  have hi := nth_ops hi'
  Till.first hi (Region.noSelect_spec hs) hQ (fun j hj => List.all_eq_true.1 hL j hj) fuel listed a w (Region.free_spec hi hf) (by simpa using hr) hy hS hT h
/-- .. in every world that meets S. -/
theorem Till.takeS (i : Nat) {oi : Oper} {v : Value} {fuel : Nat} {listed : Array Bool} {a : Act} {w : World} (hi' : nth ops.toList i = some oi)
    (hs : Region.noSelect ops = true) (hf : Region.free md ops listed i = true) (hr : (Region.ready md ops listed).contains i = true)
    (hQ : ∀ c a w, Q (.panic c) (a.put oi.dst v) w → Q (.panic c) a w) (hy : YieldsIf P ops S oi v a) (hS : S w)
    (h : Till P md ops Q S T L fuel (listed.setIfInBounds i true) (a.put oi.dst v) w) : Till P md ops Q S T L (fuel + 1) listed a w :=
  have hi := nth_ops hi'
  Till.firstS hi (Region.noSelect_spec hs) hQ fuel listed a w (Region.free_spec hi hf) (by simpa using hr) hy hS h
/-- A hypothesis that no tactic looks into. -/
structure Way (p : Prop) : Prop where
  out : p
/-- One alone may come up. -/
theorem Till.one (i : Nat) {o : Oper} {fuel : Nat} {listed : Array Bool} {a : Act} {w : World} (hr : Region.ready md ops listed = [i]) (ho : nth ops.toList i = some o)
    (h : ∀ K' : Act → World → Prop, Way (∀ a w', S w' → (L.contains i = false → T w → T w') → Till P md ops Q S T L fuel (listed.setIfInBounds i true) a w' → K' a w') → if Region.wanted o (yielded ops a.tmps) = true then Oper.wp P o a w K' Q else K' (a.put o.dst undef) w) :
    Till P md ops Q S T L (fuel + 1) listed a w := by
  refine ⟨fun h0 => (by rw [hr] at h0; cases h0), fun j hj => ?_⟩
  rw [hr] at hj
  obtain rfl := List.mem_singleton.1 hj
  exact wpOp_step (nth_ops ho) (fun K' hK => h K' ⟨fun a w hS hT hW => hK a w ⟨⟨hS, hT⟩, hW⟩⟩)
theorem Till.done {fuel : Nat} {listed : Array Bool} {a : Act} {w : World} (hr : Region.ready md ops listed = []) (h : Q .normal a w) : Till P md ops Q S T L fuel listed a w := by
  cases fuel with
  | zero => exact ⟨hr, h⟩
  | succ fuel => exact ⟨fun _ => h, by rw [hr]; simp⟩
theorem Till.begin (S T : World → Prop) (L : List Nat) {id : Nat} {a : Act} {w : World} (hm : P.follows .mixedOrders = true)
    (h : Till P .any ops Q S T L ops.size (Array.replicate ops.size false) a w.drew) : (Code.region id ops true).wp P Q a w :=
  wp_region_any hm (Till.any _ _ _ _ h)
end
end Go.Proofs.YtaaaocckfnlgdaaGreatDoorK
/- A queue as the heap sees it: Swap. Printed by wip/top/mkfaced.py. -/
namespace Go.Proofs.YtaaaocckfnlgdaaGreatDoorT
open Go.RowKit Go.Sort Go.Proofs.YtaaaocckfnlgdaaGreatDoorW.PrintWords Go.Proofs.YtaaaocckfnlgdaaGreatDoorW.PrintLast Go.Proofs.YtaaaocckfnlgdaaGreatDoorW.PrintMore Go.Proofs.YtaaaocckfnlgdaaGreatDoor.PBase Go.Proofs.YtaaaocckfnlgdaaGreatDoorH Go.Proofs.YtaaaocckfnlgdaaGreatDoorK
set_option maxRecDepth 100000
set_option linter.unusedVariables false
set_option linter.unusedSimpArgs false
section
variable {P : Program} {ops : Array Oper} {o : Oper} {a : Act} {Q : Exit → Act → World → Prop} {K : Act → World → Prop} {W W1 : World}
theorem step_store {t : TypeId} {x y : Operand} (hw : Region.wanted o (yielded ops a.tmps) = true) (ho : o.op = .store t x y) (hrun : (Instr.storeAt t (a.eval x) (a.eval y)).run P W = .ok () W1) (h : K (a.put o.dst undef) W1) :
    if Region.wanted o (yielded ops a.tmps) = true then Oper.wp P o a W K Q else K (a.put o.dst undef) W := by
  rw [if_pos hw]
  unfold Oper.wp execOp
  simp only [ho, Sem.run_bind, Sem.run_pure, Result.andThen_ok, hrun]
  exact h
theorem step_entry {t : TypeId} {x y : Operand} {v : Value} (hw : Region.wanted o (yielded ops a.tmps) = true) (ho : o.op = .mapEntry t x y) (hrun : (Instr.mapEntry t (a.eval x) (a.eval y)).run P W = .ok v W1) (h : K (a.put o.dst v) W1) :
    if Region.wanted o (yielded ops a.tmps) = true then Oper.wp P o a W K Q else K (a.put o.dst undef) W := by
  rw [if_pos hw]
  unfold Oper.wp
  simp [execOp, ho, hrun, Result.andThen]
  exact h
theorem step_estore {t : TypeId} {x y z : Operand} (hw : Region.wanted o (yielded ops a.tmps) = true) (ho : o.op = .entryStore t x y z) (hrun : (Instr.entryStore t (a.eval x) (a.eval y) (a.eval z)).run P W = .ok () W1) (h : K (a.put o.dst undef) W1) :
    if Region.wanted o (yielded ops a.tmps) = true then Oper.wp P o a W K Q else K (a.put o.dst undef) W := by
  rw [if_pos hw]
  unfold Oper.wp
  simp [execOp, ho, hrun, Result.andThen]
  exact h
end
/-- A message is laid into its place. -/
theorem row_store {W : World} {b gb n cap i : Nat} {l : List Mg} {ok : Nat → Prop} (HO : kM.R 41 W b ok (.slice (some ⟨gb, 0, none⟩) n cap) l) (hi : i < n) (x : Mg) :
    (Instr.storeAt 41 (.pointer (some ⟨gb, i * 6, none⟩)) (.agg (mv x).toArray)).run Tryz.prog W = .ok () (W.setCells gb (i * 6) (mv x)) ∧
    kM.R 41 (W.setCells gb (i * 6) (mv x)) b ok (.slice (some ⟨gb, 0, none⟩) n cap) (l.set i x) ∧ W.grownBy (W.setCells gb (i * 6) (mv x)) (some gb) := by
  obtain ⟨c1, hcl, _, hc1, _⟩ := Kd.R_elem HO ((0, 0) : Mg) (i : Int) (by omega) (by omega)
  obtain ⟨h1, h2⟩ := Kd.R_seg (okp := fun _ => False) (j := 0) (seg := mv x) (x' := x) HO (i : Int) (by omega) (by omega) hcl hc1 (by simp [mv, kM_sz]) (by
    have : (mv x).length = c1.length := by rw [hcl]; rfl
    simp only [List.take_zero, List.nil_append, Nat.zero_add, this, List.drop_length, List.append_nil]
    exact kM_mkM _ _ _ _) (fun _ h => h.elim)
  simp only [Int.toNat_natCast, kM_sz, Nat.add_zero] at h1 h2
  refine ⟨?_, h1, h2⟩
  obtain ⟨_, inner, hown, hr⟩ := HO
  rcases hown.2 with ⟨hv, _⟩ | ⟨g', cap', cur, hv, hb, hh, hnc, hcm, hcs, _⟩
  · cases hv
  injection hv with ha _ hc
  injection ha with ha
  injection ha with hg'
  subst hg'; subst hc
  refine run_store_run 41 _ (mv x) hh rfl (by kernel_rfl) ?_ (by simp [mv, Value.oneCell'])
  rw [kM_sz] at hcs
  have : (mv x).length = 6 := rfl
  omega
section
variable {w : World} {q r b : Nat} {v : Value} {l : List Mg} {p : Mg → Prop}
set_option maxHeartbeats 4000000 in
theorem fswap_calls (H : Qu w q r b v l p) (i k : Nat) (hi : i < l.length) (hk : k < l.length) : Calls Tryz.prog 119 #[.agg #[.pointer (some ⟨q, 0, none⟩)], .int .i64 (i : Int), .int .i64 (k : Int)] w fun e w' => e = .returned (.tuple #[]) ∧ Qu w' q r b v (sw l i k) p ∧ But (Zq q r v) w w' := by
  obtain ⟨gb, c, hv, -⟩ := H.at i hi
  have hi1 : (i : Int) < (l.length : Int) := by omega
  have hk1 : (k : Int) < (l.length : Int) := by omega
  have H1 := Aside0.mk (H.below (show Below w.heap.size w (w.alloc (.cells #[.pointer (some ⟨q, 0, none⟩)] 100)) from below_alloc (Below.refl _ _) _))
  have BT := Aside0.mk (But.of_below (S := Zq q r v) (show Below w.heap.size w (w.alloc (.cells #[.pointer (some ⟨q, 0, none⟩)] 100)) from below_alloc (Below.refl _ _) _))
  have N0 := Aside0.mk (blk_new w (.cells #[.pointer (some ⟨q, 0, none⟩)] 100))
  have HG := Aside0.mk (show w.heap.size ≠ q ∧ w.heap.size ≠ r ∧ w.heap.size ≠ gb from by
    have h1 := blk_lt H.blk
    obtain ⟨es, cc, h, _⟩ := H.map
    have h2 := blk_lt h
    have h3 := Kd.R_lt H.row gb (by rw [hv]; rfl)
    omega)
  clear H
  go_enter Tryz.func119, Tryz.ntmps119
  go_upto_region 1 with (fail)
  generalize (w.alloc (.cells #[.pointer (some ⟨q, 0, none⟩)] 100)) = W at H1 N0 BT ⊢
  generalize w.heap.size = g0 at N0 HG ⊢
  subst hv
  have n0 : W.cell? ⟨g0, 0, none⟩ = some (.pointer (some ⟨q, 0, none⟩)) := (blk_cell N0.out 0).trans rfl
  have k1 : W.cell? ⟨q, 1, none⟩ = some (.slice (some ⟨gb, 0, none⟩) l.length c) := (blk_cell H1.out.blk 1).trans rfl
  refine Till.begin (fun w' => w'.cell? ⟨g0, 0, none⟩ = some (.pointer (some ⟨q, 0, none⟩)) ∧ w'.cell? ⟨q, 1, none⟩ = some (.slice (some ⟨gb, 0, none⟩) l.length c)) (fun w' => (w'.cell? ⟨gb, i * 6, none⟩ = some (.int .i64 (g l i).1) ∧ w'.cell? ⟨gb, i * 6 + 1, none⟩ = some (.int .i64 0) ∧ w'.cell? ⟨gb, i * 6 + 2, none⟩ = some (.int .i64 (g l i).2) ∧ w'.cell? ⟨gb, i * 6 + 3, none⟩ = some (.int .i64 1) ∧ w'.cell? ⟨gb, i * 6 + 4, none⟩ = some (.int .i64 0) ∧ w'.cell? ⟨gb, i * 6 + 5, none⟩ = some (.int .i64 (g l i).2)) ∧ w'.cell? ⟨gb, k * 6, none⟩ = some (.int .i64 (g l k).1) ∧ w'.cell? ⟨gb, k * 6 + 1, none⟩ = some (.int .i64 0) ∧ w'.cell? ⟨gb, k * 6 + 2, none⟩ = some (.int .i64 (g l k).2) ∧ w'.cell? ⟨gb, k * 6 + 3, none⟩ = some (.int .i64 1) ∧ w'.cell? ⟨gb, k * 6 + 4, none⟩ = some (.int .i64 0) ∧ w'.cell? ⟨gb, k * 6 + 5, none⟩ = some (.int .i64 (g l k).2)) [29, 30, 31] (by kernel_rfl) ?_
  have hS : (fun w' => w'.cell? ⟨g0, 0, none⟩ = some (.pointer (some ⟨q, 0, none⟩)) ∧ w'.cell? ⟨q, 1, none⟩ = some (.slice (some ⟨gb, 0, none⟩) l.length c)) W.drew := ⟨n0, k1⟩
  have hT : (fun w' => (w'.cell? ⟨gb, i * 6, none⟩ = some (.int .i64 (g l i).1) ∧ w'.cell? ⟨gb, i * 6 + 1, none⟩ = some (.int .i64 0) ∧ w'.cell? ⟨gb, i * 6 + 2, none⟩ = some (.int .i64 (g l i).2) ∧ w'.cell? ⟨gb, i * 6 + 3, none⟩ = some (.int .i64 1) ∧ w'.cell? ⟨gb, i * 6 + 4, none⟩ = some (.int .i64 0) ∧ w'.cell? ⟨gb, i * 6 + 5, none⟩ = some (.int .i64 (g l i).2)) ∧ w'.cell? ⟨gb, k * 6, none⟩ = some (.int .i64 (g l k).1) ∧ w'.cell? ⟨gb, k * 6 + 1, none⟩ = some (.int .i64 0) ∧ w'.cell? ⟨gb, k * 6 + 2, none⟩ = some (.int .i64 (g l k).2) ∧ w'.cell? ⟨gb, k * 6 + 3, none⟩ = some (.int .i64 1) ∧ w'.cell? ⟨gb, k * 6 + 4, none⟩ = some (.int .i64 0) ∧ w'.cell? ⟨gb, k * 6 + 5, none⟩ = some (.int .i64 (g l k).2)) W.drew := ⟨H1.out.six i hi rfl, H1.out.six k hk rfl⟩
  refine Till.takeS 0 (v := ?_) rfl (by kernel_rfl) (by kernel_rfl) (by kernel_rfl) (fun _ _ _ h => h) (Or.inl ⟨by rfl, ?_⟩) hS ?_
  rotate_left; · (intro w hSw; (try dsimp only at hSw); go_simp; try with_reducible rfl)
  try simp only [Act.put, List.setIfInBounds_toArray, List.set_cons_zero, List.set_cons_succ]
  refine Till.takeS 1 (v := ?_) rfl (by kernel_rfl) (by kernel_rfl) (by kernel_rfl) (fun _ _ _ h => h) (Or.inl ⟨by rfl, ?_⟩) hS ?_
  rotate_left; · (intro w hSw; (try dsimp only at hSw); go_simp; try with_reducible rfl)
  try simp only [Act.put, List.setIfInBounds_toArray, List.set_cons_zero, List.set_cons_succ]
  refine Till.takeS 2 (v := ?_) rfl (by kernel_rfl) (by kernel_rfl) (by kernel_rfl) (fun _ _ _ h => h) (Or.inl ⟨by rfl, ?_⟩) hS ?_
  rotate_left; · (intro w hSw; (try dsimp only at hSw); go_simp; try with_reducible rfl)
  try simp only [Act.put, List.setIfInBounds_toArray, List.set_cons_zero, List.set_cons_succ]
  refine Till.takeS 3 (v := ?_) rfl (by kernel_rfl) (by kernel_rfl) (by kernel_rfl) (fun _ _ _ h => h) (Or.inl ⟨by rfl, ?_⟩) hS ?_
  rotate_left; · (intro w hSw; (try dsimp only at hSw); go_simp; try with_reducible rfl)
  try simp only [Act.put, List.setIfInBounds_toArray, List.set_cons_zero, List.set_cons_succ]
  refine Till.takeS 4 (v := ?_) rfl (by kernel_rfl) (by kernel_rfl) (by kernel_rfl) (fun _ _ _ h => h) (Or.inl ⟨by rfl, ?_⟩) hS ?_
  rotate_left; · (intro w hSw; (try dsimp only at hSw); go_simp; try with_reducible rfl)
  try simp only [Act.put, List.setIfInBounds_toArray, List.set_cons_zero, List.set_cons_succ]
  refine Till.takeS 5 (v := ?_) rfl (by kernel_rfl) (by kernel_rfl) (by kernel_rfl) (fun _ _ _ h => h) (Or.inl ⟨by rfl, ?_⟩) hS ?_
  rotate_left; · (intro w hSw; (try dsimp only at hSw); go_simp; try with_reducible rfl)
  try simp only [Act.put, List.setIfInBounds_toArray, List.set_cons_zero, List.set_cons_succ]
  refine Till.takeS 6 (v := ?_) rfl (by kernel_rfl) (by kernel_rfl) (by kernel_rfl) (fun _ _ _ h => h) (Or.inl ⟨by rfl, ?_⟩) hS ?_
  rotate_left; · (intro w hSw; (try dsimp only at hSw); go_simp; try with_reducible rfl)
  try simp only [Act.put, List.setIfInBounds_toArray, List.set_cons_zero, List.set_cons_succ]
  refine Till.takeS 7 (v := ?_) rfl (by kernel_rfl) (by kernel_rfl) (by kernel_rfl) (fun _ _ _ h => h) (Or.inl ⟨by rfl, ?_⟩) hS ?_
  rotate_left; · (intro w hSw; (try dsimp only at hSw); go_simp; try with_reducible rfl)
  try simp only [Act.put, List.setIfInBounds_toArray, List.set_cons_zero, List.set_cons_succ]
  refine Till.takeS 8 (v := ?_) rfl (by kernel_rfl) (by kernel_rfl) (by kernel_rfl) (fun _ _ _ h => h) (Or.inl ⟨by rfl, ?_⟩) hS ?_
  rotate_left; · (intro w hSw; (try dsimp only at hSw); go_simp; try with_reducible rfl)
  try simp only [Act.put, List.setIfInBounds_toArray, List.set_cons_zero, List.set_cons_succ]
  refine Till.takeS 9 (v := ?_) rfl (by kernel_rfl) (by kernel_rfl) (by kernel_rfl) (fun _ _ _ h => h) (Or.inl ⟨by rfl, ?_⟩) hS ?_
  rotate_left; · (intro w hSw; (try dsimp only at hSw); go_simp; try with_reducible rfl)
  try simp only [Act.put, List.setIfInBounds_toArray, List.set_cons_zero, List.set_cons_succ]
  refine Till.takeS 10 (v := ?_) rfl (by kernel_rfl) (by kernel_rfl) (by kernel_rfl) (fun _ _ _ h => h) (Or.inl ⟨by rfl, ?_⟩) hS ?_
  rotate_left; · (intro w hSw; (try dsimp only at hSw); go_simp; try with_reducible rfl)
  try simp only [Act.put, List.setIfInBounds_toArray, List.set_cons_zero, List.set_cons_succ]
  refine Till.takeS 11 (v := ?_) rfl (by kernel_rfl) (by kernel_rfl) (by kernel_rfl) (fun _ _ _ h => h) (Or.inl ⟨by rfl, ?_⟩) hS ?_
  rotate_left; · (intro w hSw; (try dsimp only at hSw); go_simp; try with_reducible rfl)
  try simp only [Act.put, List.setIfInBounds_toArray, List.set_cons_zero, List.set_cons_succ]
  refine Till.takeS 12 (v := ?_) rfl (by kernel_rfl) (by kernel_rfl) (by kernel_rfl) (fun _ _ _ h => h) (Or.inl ⟨by rfl, ?_⟩) hS ?_
  rotate_left; · (intro w hSw; (try dsimp only at hSw); go_simp; try with_reducible rfl)
  try simp only [Act.put, List.setIfInBounds_toArray, List.set_cons_zero, List.set_cons_succ]
  refine Till.takeS 13 (v := ?_) rfl (by kernel_rfl) (by kernel_rfl) (by kernel_rfl) (fun _ _ _ h => h) (Or.inl ⟨by rfl, ?_⟩) hS ?_
  rotate_left; · (intro w hSw; (try dsimp only at hSw); go_simp; try with_reducible rfl)
  try simp only [Act.put, List.setIfInBounds_toArray, List.set_cons_zero, List.set_cons_succ]
  refine Till.takeS 14 (v := ?_) rfl (by kernel_rfl) (by kernel_rfl) (by kernel_rfl) (fun _ _ _ h => h) (Or.inl ⟨by rfl, ?_⟩) hS ?_
  rotate_left; · (intro w hSw; (try dsimp only at hSw); go_simp; try with_reducible rfl)
  try simp only [Act.put, List.setIfInBounds_toArray, List.set_cons_zero, List.set_cons_succ]
  refine Till.takeS 15 (v := ?_) rfl (by kernel_rfl) (by kernel_rfl) (by kernel_rfl) (fun _ _ _ h => h) (Or.inl ⟨by rfl, ?_⟩) hS ?_
  rotate_left; · (intro w hSw; (try dsimp only at hSw); go_simp; try with_reducible rfl)
  try simp only [Act.put, List.setIfInBounds_toArray, List.set_cons_zero, List.set_cons_succ]
  refine Till.takeS 16 (v := ?_) rfl (by kernel_rfl) (by kernel_rfl) (by kernel_rfl) (fun _ _ _ h => h) (Or.inl ⟨by rfl, ?_⟩) hS ?_
  rotate_left; · (intro w hSw; (try dsimp only at hSw); go_simp; try with_reducible rfl)
  try simp only [Act.put, List.setIfInBounds_toArray, List.set_cons_zero, List.set_cons_succ]
  refine Till.takeS 17 (v := ?_) rfl (by kernel_rfl) (by kernel_rfl) (by kernel_rfl) (fun _ _ _ h => h) (Or.inl ⟨by rfl, ?_⟩) hS ?_
  rotate_left; · (intro w hSw; (try dsimp only at hSw); go_simp; try with_reducible rfl)
  try simp only [Act.put, List.setIfInBounds_toArray, List.set_cons_zero, List.set_cons_succ]
  refine Till.takeS 18 (v := ?_) rfl (by kernel_rfl) (by kernel_rfl) (by kernel_rfl) (fun _ _ _ h => h) (Or.inl ⟨by rfl, ?_⟩) hS ?_
  rotate_left; · (intro w hSw; (try dsimp only at hSw); go_simp; try with_reducible rfl)
  try simp only [Act.put, List.setIfInBounds_toArray, List.set_cons_zero, List.set_cons_succ]
  refine Till.take 19 (v := ?_) rfl (by kernel_rfl) (by kernel_rfl) (by kernel_rfl) (by kernel_rfl) (fun _ _ _ h => h) (Or.inl ⟨by rfl, ?_⟩) hS hT ?_
  rotate_left; · (intro w hSw; (try dsimp only at hSw); go_simp; try with_reducible rfl)
  try simp only [Act.put, List.setIfInBounds_toArray, List.set_cons_zero, List.set_cons_succ]
  refine Till.takeS 20 (v := ?_) rfl (by kernel_rfl) (by kernel_rfl) (by kernel_rfl) (fun _ _ _ h => h) (Or.inl ⟨by rfl, ?_⟩) hS ?_
  rotate_left; · (intro w hSw; (try dsimp only at hSw); go_simp; try with_reducible rfl)
  try simp only [Act.put, List.setIfInBounds_toArray, List.set_cons_zero, List.set_cons_succ]
  refine Till.takeS 21 (v := ?_) rfl (by kernel_rfl) (by kernel_rfl) (by kernel_rfl) (fun _ _ _ h => h) (Or.inl ⟨by rfl, ?_⟩) hS ?_
  rotate_left; · (intro w hSw; (try dsimp only at hSw); go_simp; try with_reducible rfl)
  try simp only [Act.put, List.setIfInBounds_toArray, List.set_cons_zero, List.set_cons_succ]
  refine Till.takeS 22 (v := ?_) rfl (by kernel_rfl) (by kernel_rfl) (by kernel_rfl) (fun _ _ _ h => h) (Or.inl ⟨by rfl, ?_⟩) hS ?_
  rotate_left; · (intro w hSw; (try dsimp only at hSw); go_simp; try with_reducible rfl)
  try simp only [Act.put, List.setIfInBounds_toArray, List.set_cons_zero, List.set_cons_succ]
  refine Till.takeS 23 (v := ?_) rfl (by kernel_rfl) (by kernel_rfl) (by kernel_rfl) (fun _ _ _ h => h) (Or.inl ⟨by rfl, ?_⟩) hS ?_
  rotate_left; · (intro w hSw; (try dsimp only at hSw); go_simp; try with_reducible rfl)
  try simp only [Act.put, List.setIfInBounds_toArray, List.set_cons_zero, List.set_cons_succ]
  refine Till.takeS 24 (v := ?_) rfl (by kernel_rfl) (by kernel_rfl) (by kernel_rfl) (fun _ _ _ h => h) (Or.inl ⟨by rfl, ?_⟩) hS ?_
  rotate_left; · (intro w hSw; (try dsimp only at hSw); go_simp; try with_reducible rfl)
  try simp only [Act.put, List.setIfInBounds_toArray, List.set_cons_zero, List.set_cons_succ]
  refine Till.takeS 25 (v := ?_) rfl (by kernel_rfl) (by kernel_rfl) (by kernel_rfl) (fun _ _ _ h => h) (Or.inl ⟨by rfl, ?_⟩) hS ?_
  rotate_left; · (intro w hSw; (try dsimp only at hSw); go_simp; try with_reducible rfl)
  try simp only [Act.put, List.setIfInBounds_toArray, List.set_cons_zero, List.set_cons_succ]
  refine Till.takeS 26 (v := ?_) rfl (by kernel_rfl) (by kernel_rfl) (by kernel_rfl) (fun _ _ _ h => h) (Or.inl ⟨by rfl, ?_⟩) hS ?_
  rotate_left; · (intro w hSw; (try dsimp only at hSw); go_simp; try with_reducible rfl)
  try simp only [Act.put, List.setIfInBounds_toArray, List.set_cons_zero, List.set_cons_succ]
  refine Till.take 27 (v := ?_) rfl (by kernel_rfl) (by kernel_rfl) (by kernel_rfl) (by kernel_rfl) (fun _ _ _ h => h) (Or.inl ⟨by rfl, ?_⟩) hS hT ?_
  rotate_left; · (intro w hSw; (try dsimp only at hSw); go_simp; try with_reducible rfl)
  try simp only [Act.put, List.setIfInBounds_toArray, List.set_cons_zero, List.set_cons_succ]
  refine Till.takeS 28 (v := ?_) rfl (by kernel_rfl) (by kernel_rfl) (by kernel_rfl) (fun _ _ _ h => h) (Or.inl ⟨by rfl, ?_⟩) hS ?_
  rotate_left; · (intro w hSw; (try dsimp only at hSw); go_simp; try with_reducible rfl)
  try simp only [Act.put, List.setIfInBounds_toArray, List.set_cons_zero, List.set_cons_succ]
  have R2 := row_store H1.out.drew.row hi (g l k)
  have SR := Aside0.mk R2
  clear hT
  refine Till.one 29 (by kernel_rfl) rfl (fun K hK => ?_)
  refine step_store (by rfl) rfl R2.1 ?_
  have hS3 : (fun w' => w'.cell? ⟨g0, 0, none⟩ = some (.pointer (some ⟨q, 0, none⟩)) ∧ w'.cell? ⟨q, 1, none⟩ = some (.slice (some ⟨gb, 0, none⟩) l.length c)) (W.drew.setCells gb (i * 6) (mv (g l k))) := ⟨(But.of_grown (S := fun k => k = gb) R2.2.2 (fun k hk => by cases hk; rfl)).cell hS.1 HG.out.2.2, (But.of_grown (S := fun k => k = gb) R2.2.2 (fun k hk => by cases hk; rfl)).cell hS.2 (fun e => H1.out.qv (congrArg some e))⟩
  have B3 := Aside0.mk (But.of_grown (S := fun k => k = gb) R2.2.2 (fun k hk => by cases hk; rfl))
  have R3 := Aside0.mk R2.2.1
  clear R2 SR hS
  refine hK.out _ _ hS3 (fun h => absurd h (by decide)) ?_
  clear hK K
  generalize W.drew.setCells gb (i * 6) (mv (g l k)) = W3 at hS3 B3 R3 ⊢
  have hS := hS3
  clear hS3
  try simp only [Act.put, List.setIfInBounds_toArray, List.set_cons_zero, List.set_cons_succ]
  refine Till.takeS 30 (v := ?_) rfl (by kernel_rfl) (by kernel_rfl) (by kernel_rfl) (fun _ _ _ h => h) (Or.inl ⟨by rfl, ?_⟩) hS ?_
  rotate_left; · (intro w hSw; (try dsimp only at hSw); go_simp; try with_reducible rfl)
  try simp only [Act.put, List.setIfInBounds_toArray, List.set_cons_zero, List.set_cons_succ]
  have R4 := row_store R3.out hk (g l i)
  refine Till.one 31 (by kernel_rfl) rfl (fun K hK => ?_)
  refine step_store (by rfl) rfl R4.1 ?_
  have hS4 : (fun w' => w'.cell? ⟨g0, 0, none⟩ = some (.pointer (some ⟨q, 0, none⟩)) ∧ w'.cell? ⟨q, 1, none⟩ = some (.slice (some ⟨gb, 0, none⟩) l.length c)) (W3.setCells gb (k * 6) (mv (g l i))) := ⟨(But.of_grown (S := fun k => k = gb) R4.2.2 (fun k hk => by cases hk; rfl)).cell hS.1 HG.out.2.2, (But.of_grown (S := fun k => k = gb) R4.2.2 (fun k hk => by cases hk; rfl)).cell hS.2 (fun e => H1.out.qv (congrArg some e))⟩
  have B4 := Aside0.mk (B3.out.trans (But.of_grown (S := fun k => k = gb) R4.2.2 (fun k hk => by cases hk; rfl)))
  have L4 := Aside0.mk R4.2.1
  clear R4 hS R3 B3
  refine hK.out _ _ hS4 (fun h => absurd h (by decide)) ?_
  clear hK K
  generalize W3.setCells gb (k * 6) (mv (g l i)) = W4 at hS4 B4 L4 ⊢
  obtain ⟨n0', -⟩ := hS4
  try simp only [Act.put, List.setIfInBounds_toArray, List.set_cons_zero, List.set_cons_succ]
  refine Till.done (by kernel_rfl) ?_
  have H4 := Aside0.mk (show Qu W4 q r b (.slice (some ⟨gb, 0, none⟩) l.length c) (sw l i k) p from { blk := B4.out.blk H1.out.drew.blk (fun e => H1.out.qv (by rw [e]; rfl)), row := L4.out, map := H1.out.drew.map.but B4.out (fun e => H1.out.rv (by rw [e]; rfl)), all := fun x hx => H1.out.all x ((sw_perm l i k hi hk).mem_iff.1 hx) })
  have BT4 := Aside0.mk (BT.out.drew.trans (B4.out.mono (fun k hk => Or.inr (Or.inr (by rw [hk]; rfl)))))
  clear n0 k1 L4 B4 H1 BT N0
  have hl' : (sw l i k).length = l.length := sw_len l i k
  have HL := Aside0.mk hl'
  clear hl'
  go_upto_region 2 with (fail)
  have k1 : W4.cell? ⟨q, 1, none⟩ = some (.slice (some ⟨gb, 0, none⟩) l.length c) := (blk_cell H4.out.blk 1).trans rfl
  have k2 : W4.cell? ⟨q, 2, none⟩ = some (.map (some r)) := (blk_cell H4.out.blk 2).trans rfl
  obtain ⟨i0, i1, i2, -, -, -⟩ := H4.out.six i (by rw [HL.out]; exact hi) (by rw [HL.out])
  obtain ⟨j0, j1, j2, -, -, -⟩ := H4.out.six k (by rw [HL.out]; exact hk) (by rw [HL.out])
  have PX := Aside0.mk (show p (g (sw l i k) i) ∧ p (g (sw l i k) k) from ⟨H4.out.sized i (by rw [HL.out]; exact hi), H4.out.sized k (by rw [HL.out]; exact hk)⟩)
  have FL := Aside0.mk (show ∀ (W' : World) (m : MapOk W' r p), But (fun k => k = r) W4.drew W' → Qu W' q r b (.slice (some ⟨gb, 0, none⟩) l.length c) (sw l i k) p ∧ But (Zq q r (.slice (some ⟨gb, 0, none⟩) l.length c)) w W' from fun W' m hb => ⟨{ blk := hb.blk H4.out.drew.blk H4.out.qr, row := Kd.R_mono (Kd.R_step (Kd.R_tight rfl H4.out.drew.row) (fun k hk hlt => hb.block k hlt (fun e => H4.out.rv (by rw [← e]; exact hk)))) (fun _ _ => trivial), map := m, all := H4.out.all }, BT4.out.drew.trans (hb.mono (fun k hk => Or.inr (Or.inl hk)))⟩)
  have M4 := Aside0.mk (show MapOk W4.drew r p from H4.out.drew.map)
  have GR := Aside0.mk (show q ≠ r ∧ g0 ≠ r ∧ gb ≠ r from ⟨H4.out.qr, HG.out.2.1, fun e => H4.out.rv (by rw [← e]; rfl)⟩)
  clear H4 BT4 HG
  generalize g (sw l i k) i = x at i0 i1 i2 PX
  generalize g (sw l i k) k = y at j0 j1 j2 PX
  refine Till.begin (fun w' => w'.cell? ⟨g0, 0, none⟩ = some (.pointer (some ⟨q, 0, none⟩)) ∧ w'.cell? ⟨q, 1, none⟩ = some (.slice (some ⟨gb, 0, none⟩) l.length c) ∧ w'.cell? ⟨q, 2, none⟩ = some (.map (some r)) ∧ w'.cell? ⟨gb, i * 6, none⟩ = some (.int .i64 x.1) ∧ w'.cell? ⟨gb, i * 6 + 1, none⟩ = some (.int .i64 0) ∧ w'.cell? ⟨gb, i * 6 + 2, none⟩ = some (.int .i64 x.2) ∧ w'.cell? ⟨gb, k * 6, none⟩ = some (.int .i64 y.1) ∧ w'.cell? ⟨gb, k * 6 + 1, none⟩ = some (.int .i64 0) ∧ w'.cell? ⟨gb, k * 6 + 2, none⟩ = some (.int .i64 y.2)) (fun _ => True) [] (by kernel_rfl) ?_
  have hS : (fun w' => w'.cell? ⟨g0, 0, none⟩ = some (.pointer (some ⟨q, 0, none⟩)) ∧ w'.cell? ⟨q, 1, none⟩ = some (.slice (some ⟨gb, 0, none⟩) l.length c) ∧ w'.cell? ⟨q, 2, none⟩ = some (.map (some r)) ∧ w'.cell? ⟨gb, i * 6, none⟩ = some (.int .i64 x.1) ∧ w'.cell? ⟨gb, i * 6 + 1, none⟩ = some (.int .i64 0) ∧ w'.cell? ⟨gb, i * 6 + 2, none⟩ = some (.int .i64 x.2) ∧ w'.cell? ⟨gb, k * 6, none⟩ = some (.int .i64 y.1) ∧ w'.cell? ⟨gb, k * 6 + 1, none⟩ = some (.int .i64 0) ∧ w'.cell? ⟨gb, k * 6 + 2, none⟩ = some (.int .i64 y.2)) W4.drew := ⟨n0', k1, k2, i0, i1, i2, j0, j1, j2⟩
  have KS := Aside0.mk (show ∀ a b : World, (fun w' => w'.cell? ⟨g0, 0, none⟩ = some (.pointer (some ⟨q, 0, none⟩)) ∧ w'.cell? ⟨q, 1, none⟩ = some (.slice (some ⟨gb, 0, none⟩) l.length c) ∧ w'.cell? ⟨q, 2, none⟩ = some (.map (some r)) ∧ w'.cell? ⟨gb, i * 6, none⟩ = some (.int .i64 x.1) ∧ w'.cell? ⟨gb, i * 6 + 1, none⟩ = some (.int .i64 0) ∧ w'.cell? ⟨gb, i * 6 + 2, none⟩ = some (.int .i64 x.2) ∧ w'.cell? ⟨gb, k * 6, none⟩ = some (.int .i64 y.1) ∧ w'.cell? ⟨gb, k * 6 + 1, none⟩ = some (.int .i64 0) ∧ w'.cell? ⟨gb, k * 6 + 2, none⟩ = some (.int .i64 y.2)) a → But (fun k => k = r) a b → (fun w' => w'.cell? ⟨g0, 0, none⟩ = some (.pointer (some ⟨q, 0, none⟩)) ∧ w'.cell? ⟨q, 1, none⟩ = some (.slice (some ⟨gb, 0, none⟩) l.length c) ∧ w'.cell? ⟨q, 2, none⟩ = some (.map (some r)) ∧ w'.cell? ⟨gb, i * 6, none⟩ = some (.int .i64 x.1) ∧ w'.cell? ⟨gb, i * 6 + 1, none⟩ = some (.int .i64 0) ∧ w'.cell? ⟨gb, i * 6 + 2, none⟩ = some (.int .i64 x.2) ∧ w'.cell? ⟨gb, k * 6, none⟩ = some (.int .i64 y.1) ∧ w'.cell? ⟨gb, k * 6 + 1, none⟩ = some (.int .i64 0) ∧ w'.cell? ⟨gb, k * 6 + 2, none⟩ = some (.int .i64 y.2)) b from fun a b h hb => ⟨hb.cell h.1 GR.out.2.1, hb.cell h.2.1 GR.out.1, hb.cell h.2.2.1 GR.out.1, hb.cell h.2.2.2.1 GR.out.2.2, hb.cell h.2.2.2.2.1 GR.out.2.2, hb.cell h.2.2.2.2.2.1 GR.out.2.2, hb.cell h.2.2.2.2.2.2.1 GR.out.2.2, hb.cell h.2.2.2.2.2.2.2.1 GR.out.2.2, hb.cell h.2.2.2.2.2.2.2.2 GR.out.2.2⟩)
  clear n0' k1 k2 i0 i1 i2 j0 j1 j2
  have BB := Aside0.mk (But.refl (fun k => k = r) W4.drew)
  generalize hWd : W4.drew = Wd at hS M4 FL BB ⊢
  clear hWd
  refine Till.takeS 0 (v := ?_) rfl (by kernel_rfl) (by kernel_rfl) (by kernel_rfl) (fun _ _ _ h => h) (Or.inl ⟨by rfl, ?_⟩) hS ?_
  rotate_left; · (intro w hSw; (try dsimp only at hSw); go_simp; try with_reducible rfl)
  try simp only [Act.put, List.setIfInBounds_toArray, List.set_cons_zero, List.set_cons_succ]
  refine Till.takeS 1 (v := ?_) rfl (by kernel_rfl) (by kernel_rfl) (by kernel_rfl) (fun _ _ _ h => h) (Or.inl ⟨by rfl, ?_⟩) hS ?_
  rotate_left; · (intro w hSw; (try dsimp only at hSw); go_simp; try with_reducible rfl)
  try simp only [Act.put, List.setIfInBounds_toArray, List.set_cons_zero, List.set_cons_succ]
  refine Till.takeS 2 (v := ?_) rfl (by kernel_rfl) (by kernel_rfl) (by kernel_rfl) (fun _ _ _ h => h) (Or.inl ⟨by rfl, ?_⟩) hS ?_
  rotate_left; · (intro w hSw; (try dsimp only at hSw); go_simp; try with_reducible rfl)
  try simp only [Act.put, List.setIfInBounds_toArray, List.set_cons_zero, List.set_cons_succ]
  refine Till.takeS 3 (v := ?_) rfl (by kernel_rfl) (by kernel_rfl) (by kernel_rfl) (fun _ _ _ h => h) (Or.inl ⟨by rfl, ?_⟩) hS ?_
  rotate_left; · (intro w hSw; (try dsimp only at hSw); go_simp; try with_reducible rfl)
  try simp only [Act.put, List.setIfInBounds_toArray, List.set_cons_zero, List.set_cons_succ]
  refine Till.takeS 4 (v := ?_) rfl (by kernel_rfl) (by kernel_rfl) (by kernel_rfl) (fun _ _ _ h => h) (Or.inl ⟨by rfl, ?_⟩) hS ?_
  rotate_left; · (intro w hSw; (try dsimp only at hSw); go_simp; try with_reducible rfl)
  try simp only [Act.put, List.setIfInBounds_toArray, List.set_cons_zero, List.set_cons_succ]
  refine Till.takeS 5 (v := ?_) rfl (by kernel_rfl) (by kernel_rfl) (by kernel_rfl) (fun _ _ _ h => h) (Or.inl ⟨by rfl, ?_⟩) hS ?_
  rotate_left; · (intro w hSw; (try dsimp only at hSw); go_simp; try with_reducible rfl)
  try simp only [Act.put, List.setIfInBounds_toArray, List.set_cons_zero, List.set_cons_succ]
  refine Till.takeS 6 (v := ?_) rfl (by kernel_rfl) (by kernel_rfl) (by kernel_rfl) (fun _ _ _ h => h) (Or.inl ⟨by rfl, ?_⟩) hS ?_
  rotate_left; · (intro w hSw; (try dsimp only at hSw); go_simp; try with_reducible rfl)
  try simp only [Act.put, List.setIfInBounds_toArray, List.set_cons_zero, List.set_cons_succ]
  refine Till.takeS 7 (v := ?_) rfl (by kernel_rfl) (by kernel_rfl) (by kernel_rfl) (fun _ _ _ h => h) (Or.inl ⟨by rfl, ?_⟩) hS ?_
  rotate_left; · (intro w hSw; (try dsimp only at hSw); go_simp; try with_reducible rfl)
  try simp only [Act.put, List.setIfInBounds_toArray, List.set_cons_zero, List.set_cons_succ]
  refine Till.takeS 8 (v := ?_) rfl (by kernel_rfl) (by kernel_rfl) (by kernel_rfl) (fun _ _ _ h => h) (Or.inl ⟨by rfl, ?_⟩) hS ?_
  rotate_left; · (intro w hSw; (try dsimp only at hSw); go_simp; try with_reducible rfl)
  try simp only [Act.put, List.setIfInBounds_toArray, List.set_cons_zero, List.set_cons_succ]
  refine Till.takeS 9 (v := ?_) rfl (by kernel_rfl) (by kernel_rfl) (by kernel_rfl) (fun _ _ _ h => h) (Or.inl ⟨by rfl, ?_⟩) hS ?_
  rotate_left; · (intro w hSw; (try dsimp only at hSw); go_simp; try with_reducible rfl)
  try simp only [Act.put, List.setIfInBounds_toArray, List.set_cons_zero, List.set_cons_succ]
  refine Till.takeS 10 (v := ?_) rfl (by kernel_rfl) (by kernel_rfl) (by kernel_rfl) (fun _ _ _ h => h) (Or.inl ⟨by rfl, ?_⟩) hS ?_
  rotate_left; · (intro w hSw; (try dsimp only at hSw); go_simp; try with_reducible rfl)
  try simp only [Act.put, List.setIfInBounds_toArray, List.set_cons_zero, List.set_cons_succ]
  refine Till.takeS 11 (v := ?_) rfl (by kernel_rfl) (by kernel_rfl) (by kernel_rfl) (fun _ _ _ h => h) (Or.inl ⟨by rfl, ?_⟩) hS ?_
  rotate_left; · (intro w hSw; (try dsimp only at hSw); go_simp; try with_reducible rfl)
  try simp only [Act.put, List.setIfInBounds_toArray, List.set_cons_zero, List.set_cons_succ]
  refine Till.takeS 12 (v := ?_) rfl (by kernel_rfl) (by kernel_rfl) (by kernel_rfl) (fun _ _ _ h => h) (Or.inl ⟨by rfl, ?_⟩) hS ?_
  rotate_left; · (intro w hSw; (try dsimp only at hSw); go_simp; try with_reducible rfl)
  try simp only [Act.put, List.setIfInBounds_toArray, List.set_cons_zero, List.set_cons_succ]
  refine Till.takeS 13 (v := ?_) rfl (by kernel_rfl) (by kernel_rfl) (by kernel_rfl) (fun _ _ _ h => h) (Or.inl ⟨by rfl, ?_⟩) hS ?_
  rotate_left; · (intro w hSw; (try dsimp only at hSw); go_simp; try with_reducible rfl)
  try simp only [Act.put, List.setIfInBounds_toArray, List.set_cons_zero, List.set_cons_succ]
  refine Till.takeS 14 (v := ?_) rfl (by kernel_rfl) (by kernel_rfl) (by kernel_rfl) (fun _ _ _ h => h) (Or.inl ⟨by rfl, ?_⟩) hS ?_
  rotate_left; · (intro w hSw; (try dsimp only at hSw); go_simp; try with_reducible rfl)
  try simp only [Act.put, List.setIfInBounds_toArray, List.set_cons_zero, List.set_cons_succ]
  refine Till.takeS 15 (v := ?_) rfl (by kernel_rfl) (by kernel_rfl) (by kernel_rfl) (fun _ _ _ h => h) (Or.inl ⟨by rfl, ?_⟩) hS ?_
  rotate_left; · (intro w hSw; (try dsimp only at hSw); go_simp; try with_reducible rfl)
  try simp only [Act.put, List.setIfInBounds_toArray, List.set_cons_zero, List.set_cons_succ]
  refine Till.takeS 16 (v := ?_) rfl (by kernel_rfl) (by kernel_rfl) (by kernel_rfl) (fun _ _ _ h => h) (Or.inl ⟨by rfl, ?_⟩) hS ?_
  rotate_left; · (intro w hSw; (try dsimp only at hSw); go_simp; try with_reducible rfl)
  try simp only [Act.put, List.setIfInBounds_toArray, List.set_cons_zero, List.set_cons_succ]
  refine Till.takeS 17 (v := ?_) rfl (by kernel_rfl) (by kernel_rfl) (by kernel_rfl) (fun _ _ _ h => h) (Or.inl ⟨by rfl, ?_⟩) hS ?_
  rotate_left; · (intro w hSw; (try dsimp only at hSw); go_simp; try with_reducible rfl)
  try simp only [Act.put, List.setIfInBounds_toArray, List.set_cons_zero, List.set_cons_succ]
  refine Till.takeS 18 (v := ?_) rfl (by kernel_rfl) (by kernel_rfl) (by kernel_rfl) (fun _ _ _ h => h) (Or.inl ⟨by rfl, ?_⟩) hS ?_
  rotate_left; · (intro w hSw; (try dsimp only at hSw); go_simp; try with_reducible rfl)
  try simp only [Act.put, List.setIfInBounds_toArray, List.set_cons_zero, List.set_cons_succ]
  refine Till.takeS 19 (v := ?_) rfl (by kernel_rfl) (by kernel_rfl) (by kernel_rfl) (fun _ _ _ h => h) (Or.inl ⟨by rfl, ?_⟩) hS ?_
  rotate_left; · (intro w hSw; (try dsimp only at hSw); go_simp; try with_reducible rfl)
  try simp only [Act.put, List.setIfInBounds_toArray, List.set_cons_zero, List.set_cons_succ]
  refine Till.takeS 20 (v := ?_) rfl (by kernel_rfl) (by kernel_rfl) (by kernel_rfl) (fun _ _ _ h => h) (Or.inl ⟨by rfl, ?_⟩) hS ?_
  rotate_left; · (intro w hSw; (try dsimp only at hSw); go_simp; try with_reducible rfl)
  try simp only [Act.put, List.setIfInBounds_toArray, List.set_cons_zero, List.set_cons_succ]
  refine Till.takeS 21 (v := ?_) rfl (by kernel_rfl) (by kernel_rfl) (by kernel_rfl) (fun _ _ _ h => h) (Or.inl ⟨by rfl, ?_⟩) hS ?_
  rotate_left; · (intro w hSw; (try dsimp only at hSw); go_simp; try with_reducible rfl)
  try simp only [Act.put, List.setIfInBounds_toArray, List.set_cons_zero, List.set_cons_succ]
  refine Till.takeS 22 (v := ?_) rfl (by kernel_rfl) (by kernel_rfl) (by kernel_rfl) (fun _ _ _ h => h) (Or.inl ⟨by rfl, ?_⟩) hS ?_
  rotate_left; · (intro w hSw; (try dsimp only at hSw); go_simp; try with_reducible rfl)
  try simp only [Act.put, List.setIfInBounds_toArray, List.set_cons_zero, List.set_cons_succ]
  refine Till.takeS 23 (v := ?_) rfl (by kernel_rfl) (by kernel_rfl) (by kernel_rfl) (fun _ _ _ h => h) (Or.inl ⟨by rfl, ?_⟩) hS ?_
  rotate_left; · (intro w hSw; (try dsimp only at hSw); go_simp; try with_reducible rfl)
  try simp only [Act.put, List.setIfInBounds_toArray, List.set_cons_zero, List.set_cons_succ]
  refine Till.takeS 24 (v := ?_) rfl (by kernel_rfl) (by kernel_rfl) (by kernel_rfl) (fun _ _ _ h => h) (Or.inl ⟨by rfl, ?_⟩) hS ?_
  rotate_left; · (intro w hSw; (try dsimp only at hSw); go_simp; try with_reducible rfl)
  try simp only [Act.put, List.setIfInBounds_toArray, List.set_cons_zero, List.set_cons_succ]
  refine Till.takeS 25 (v := ?_) rfl (by kernel_rfl) (by kernel_rfl) (by kernel_rfl) (fun _ _ _ h => h) (Or.inl ⟨by rfl, ?_⟩) hS ?_
  rotate_left; · (intro w hSw; (try dsimp only at hSw); go_simp; try with_reducible rfl)
  try simp only [Act.put, List.setIfInBounds_toArray, List.set_cons_zero, List.set_cons_succ]
  refine Till.takeS 26 (v := ?_) rfl (by kernel_rfl) (by kernel_rfl) (by kernel_rfl) (fun _ _ _ h => h) (Or.inl ⟨by rfl, ?_⟩) hS ?_
  rotate_left; · (intro w hSw; (try dsimp only at hSw); go_simp; try with_reducible rfl)
  try simp only [Act.put, List.setIfInBounds_toArray, List.set_cons_zero, List.set_cons_succ]
  refine Till.takeS 27 (v := ?_) rfl (by kernel_rfl) (by kernel_rfl) (by kernel_rfl) (fun _ _ _ h => h) (Or.inl ⟨by rfl, ?_⟩) hS ?_
  rotate_left; · (intro w hSw; (try dsimp only at hSw); go_simp; try with_reducible rfl)
  try simp only [Act.put, List.setIfInBounds_toArray, List.set_cons_zero, List.set_cons_succ]
  refine Till.takeS 28 (v := ?_) rfl (by kernel_rfl) (by kernel_rfl) (by kernel_rfl) (fun _ _ _ h => h) (Or.inl ⟨by rfl, ?_⟩) hS ?_
  rotate_left; · (intro w hSw; (try dsimp only at hSw); go_simp; try with_reducible rfl)
  try simp only [Act.put, List.setIfInBounds_toArray, List.set_cons_zero, List.set_cons_succ]
  refine Till.takeS 29 (v := ?_) rfl (by kernel_rfl) (by kernel_rfl) (by kernel_rfl) (fun _ _ _ h => h) (Or.inl ⟨by rfl, ?_⟩) hS ?_
  rotate_left; · (intro w hSw; (try dsimp only at hSw); go_simp; try with_reducible rfl)
  try simp only [Act.put, List.setIfInBounds_toArray, List.set_cons_zero, List.set_cons_succ]
  obtain ⟨w5, v5, s5, hr5, hm5, hb5⟩ := run_entry M4.out x PX.out.1
  refine Till.one 30 (by kernel_rfl) rfl (fun K hK => ?_)
  refine step_entry (by rfl) rfl hr5 ?_
  have hS5 := KS.out _ _ hS hb5
  have E5 := Aside0.mk hm5
  have BB5 := Aside0.mk (BB.out.trans hb5)
  clear hS hr5 hm5 hb5 BB
  refine hK.out _ _ hS5 (fun _ _ => trivial) ?_
  clear hK K
  have hS := hS5
  have BB := BB5
  clear hS5 BB5
  try simp only [Act.put, List.setIfInBounds_toArray, List.set_cons_zero, List.set_cons_succ]
  refine Till.takeS 31 (v := ?_) rfl (by kernel_rfl) (by kernel_rfl) (by kernel_rfl) (fun _ _ _ h => h) (Or.inl ⟨by rfl, ?_⟩) hS ?_
  rotate_left; · (intro w hSw; (try dsimp only at hSw); go_simp; try with_reducible rfl)
  try simp only [Act.put, List.setIfInBounds_toArray, List.set_cons_zero, List.set_cons_succ]
  obtain ⟨w6, hr6, hm6, hb6⟩ := run_estore E5.out (.int .i64 (i : Int))
  refine Till.one 32 (by kernel_rfl) rfl (fun K hK => ?_)
  refine step_estore (by rfl) rfl hr6 ?_
  have hS6 := KS.out _ _ hS hb6
  have E6 := Aside0.mk hm6
  have BB6 := Aside0.mk (BB.out.trans hb6)
  clear hS hr6 hm6 hb6 BB
  refine hK.out _ _ hS6 (fun _ _ => trivial) ?_
  clear hK K
  have hS := hS6
  have BB := BB6
  clear hS6 BB6
  try simp only [Act.put, List.setIfInBounds_toArray, List.set_cons_zero, List.set_cons_succ]
  obtain ⟨w7, v7, s7, hr7, hm7, hb7⟩ := run_entry E6.out y PX.out.2
  refine Till.one 33 (by kernel_rfl) rfl (fun K hK => ?_)
  refine step_entry (by rfl) rfl hr7 ?_
  have hS7 := KS.out _ _ hS hb7
  have E7 := Aside0.mk hm7
  have BB7 := Aside0.mk (BB.out.trans hb7)
  clear hS hr7 hm7 hb7 BB
  refine hK.out _ _ hS7 (fun _ _ => trivial) ?_
  clear hK K
  have hS := hS7
  have BB := BB7
  clear hS7 BB7
  try simp only [Act.put, List.setIfInBounds_toArray, List.set_cons_zero, List.set_cons_succ]
  refine Till.takeS 34 (v := ?_) rfl (by kernel_rfl) (by kernel_rfl) (by kernel_rfl) (fun _ _ _ h => h) (Or.inl ⟨by rfl, ?_⟩) hS ?_
  rotate_left; · (intro w hSw; (try dsimp only at hSw); go_simp; try with_reducible rfl)
  try simp only [Act.put, List.setIfInBounds_toArray, List.set_cons_zero, List.set_cons_succ]
  obtain ⟨w8, hr8, hm8, hb8⟩ := run_estore E7.out (.int .i64 (k : Int))
  refine Till.one 35 (by kernel_rfl) rfl (fun K hK => ?_)
  refine step_estore (by rfl) rfl hr8 ?_
  have hS8 := KS.out _ _ hS hb8
  have E8 := Aside0.mk hm8
  have BB8 := Aside0.mk (BB.out.trans hb8)
  clear hS hr8 hm8 hb8 BB
  refine hK.out _ _ hS8 (fun _ _ => trivial) ?_
  clear hK K
  have hS := hS8
  have BB := BB8
  clear hS8 BB8
  try simp only [Act.put, List.setIfInBounds_toArray, List.set_cons_zero, List.set_cons_succ]
  refine Till.done (by kernel_rfl) ?_
  go_end0
  exact ⟨rfl, FL.out _ E8.out BB.out⟩
end
end Go.Proofs.YtaaaocckfnlgdaaGreatDoorT
/- A queue as the heap sees it: Push, Pop. Printed by wip/top/mkpushpop.py. -/
namespace Go.Proofs.YtaaaocckfnlgdaaGreatDoorT
open Go.RowKit Go.Sort Go.Proofs.YtaaaocckfnlgdaaGreatDoorW.PrintWords Go.Proofs.YtaaaocckfnlgdaaGreatDoorW.PrintLast Go.Proofs.YtaaaocckfnlgdaaGreatDoorW.PrintMore Go.Proofs.YtaaaocckfnlgdaaGreatDoor.PBase Go.Proofs.YtaaaocckfnlgdaaGreatDoorH Go.Proofs.YtaaaocckfnlgdaaGreatDoorK
set_option maxRecDepth 100000
set_option linter.unusedVariables false
set_option linter.unusedSimpArgs false
section
variable {w : World} {q r b : Nat} {v : Value} {l : List Mg} {p : Mg → Prop}
/-- A message as it is handed about. -/
def mvv (x : Mg) : Value := .agg #[.int .i64 x.1, .int .i64 0, .int .i64 x.2, .int .i64 1, .int .i64 0, .int .i64 x.2]
theorem run_ta (v : Value) (w : World) : (Instr.typeAssert (.iface 41 v) 20 41 false).run Tryz.prog w = .ok v w := by
  unfold Instr.typeAssert
  simp [run_underlying Tryz.underlying41, Result.andThen]
set_option maxHeartbeats 4000000 in
theorem fpush_calls (H : Qu w q r b v l p) (hb : b ≤ w.heap.size) (hl : l.length ≤ 1000) (x : Mg) (hx : p x) : Calls Tryz.prog 118 #[.agg #[.pointer (some ⟨q, 0, none⟩)], .iface 41 (mvv x)] w fun e w' => e = .returned (.tuple #[]) ∧ ∃ v', Qu w' q r b v' (l ++ [x]) p ∧ But (Zq q r v) w w' ∧ (v'.ownBlock = v.ownBlock ∨ ∃ k, v'.ownBlock = some k ∧ w.heap.size ≤ k) := by
  obtain ⟨A, c, hv⟩ := Kd.R_slice H.row
  obtain ⟨W, hW⟩ : ∃ W, W = (w.alloc (.cells #[.pointer (some ⟨q, 0, none⟩)] 100)).alloc (.cells #[.int .i64 x.1, .int .i64 0, .int .i64 x.2, .int .i64 1, .int .i64 0, .int .i64 x.2] 41) := ⟨_, rfl⟩
  have B1 : Below w.heap.size w W := by rw [hW]; exact below_alloc (below_alloc (Below.refl _ _) _) _
  have H1 := Aside0.mk (H.below B1)
  have BT := Aside0.mk (But.of_below (S := Zq q r v) B1)
  have N0 := Aside0.mk (show W.heap[w.heap.size]? = some (.cells #[.pointer (some ⟨q, 0, none⟩)] 100 (0, 0)) from by rw [hW]; exact blk_alloc (blk_new w _) _)
  have N1 := Aside0.mk (show W.heap[w.heap.size + 1]? = some (.cells #[.int .i64 x.1, .int .i64 0, .int .i64 x.2, .int .i64 1, .int .i64 0, .int .i64 x.2] 41 (0, 0)) from by
    rw [hW]
    have := blk_new (w.alloc (.cells #[.pointer (some ⟨q, 0, none⟩)] 100)) (.cells #[.int .i64 x.1, .int .i64 0, .int .i64 x.2, .int .i64 1, .int .i64 0, .int .i64 x.2] 41)
    rwa [World.size_alloc] at this)
  have HG := Aside0.mk (show w.heap.size ≠ q ∧ w.heap.size ≠ r ∧ w.heap.size + 1 ≠ q ∧ w.heap.size + 1 ≠ r ∧ (∀ k, v.ownBlock = some k → k < w.heap.size) ∧ b ≤ w.heap.size ∧ w.heap.size ≤ W.heap.size from by
    have h1 := blk_lt H.blk
    obtain ⟨es, cc, h, _⟩ := H.map
    have h2 := blk_lt h
    exact ⟨by omega, by omega, by omega, by omega, Kd.R_lt H.row, hb, B1.size⟩)
  have HX := Aside0.mk hx
  clear H B1 hx hb
  go_enter Tryz.func118, Tryz.ntmps118
  unfold mvv
  have hta := fun W => run_ta (.agg #[.int .i64 x.1, .int .i64 0, .int .i64 x.2, .int .i64 1, .int .i64 0, .int .i64 x.2]) W
  go_upto_region 2 with (fail)
  rw [← hW]
  clear hta
  clear hW
  generalize hg0 : w.heap.size = g0 at N0 N1 HG ⊢
  have HE := Aside0.mk hg0
  clear hg0
  have n0 : W.cell? ⟨g0, 0, none⟩ = some (.pointer (some ⟨q, 0, none⟩)) := (blk_cell N0.out 0).trans rfl
  have k1 : W.cell? ⟨q, 1, none⟩ = some v := (blk_cell H1.out.blk 1).trans rfl
  have k2 : W.cell? ⟨q, 2, none⟩ = some (.map (some r)) := (blk_cell H1.out.blk 2).trans rfl
  have m0 : W.cell? ⟨g0 + 1, 0, none⟩ = some (.int .i64 x.1) := (blk_cell N1.out 0).trans rfl
  have m1 : W.cell? ⟨g0 + 1, 1, none⟩ = some (.int .i64 0) := (blk_cell N1.out 1).trans rfl
  have m2 : W.cell? ⟨g0 + 1, 2, none⟩ = some (.int .i64 x.2) := (blk_cell N1.out 2).trans rfl
  rw [hv] at k1
  refine wp_region_still_tail 13 (by kernel_rfl) (by kernel_rfl) ?_
  simp only [List.take_succ_cons, List.take_zero, List.drop_succ_cons, List.drop_zero]
  iterate 13 still_step
  refine wpStill_nil ?_
  clear n0 k1 k2 m0 m1 m2
  have M1 := Aside0.mk (show MapOk W.drew r p from H1.out.drew.map)
  change wpList _ _ _ _ _ W.drew
  go_upto_region 3 with (refine wpk_update rfl (.tmp 11) (.tmp 13) (.tmp 19) rfl rfl x rfl M1.out HX.out ?_; intro W2 hm hb; have M2 := Aside0.mk hm; have B2 := Aside0.mk hb; clear hm hb)
  have GR := Aside0.mk (show q ≠ r ∧ some r ≠ v.ownBlock ∧ some q ≠ v.ownBlock ∧ (some g0 ≠ v.ownBlock ∧ some (g0 + 1) ≠ v.ownBlock) from ⟨H1.out.qr, H1.out.rv, H1.out.qv, fun e => by have := HG.out.2.2.2.2.1 _ e.symm; omega, fun e => by have := HG.out.2.2.2.2.1 _ e.symm; omega⟩)
  have H2 := Aside0.mk (show Qu W2 q r b v l p from { blk := B2.out.blk H1.out.drew.blk H1.out.qr, row := Kd.R_mono (Kd.R_step (Kd.R_tight rfl H1.out.drew.row) (fun k hk hlt => B2.out.block k hlt (fun e => H1.out.rv (by rw [← e]; exact hk)))) (fun _ _ => trivial), map := M2.out, all := H1.out.all })
  have T2 := Aside0.mk (BT.out.drew.trans (B2.out.mono (fun k hk => Or.inr (Or.inl hk))))
  have N0' := Aside0.mk (B2.out.blk (blk_drew N0.out) HG.out.2.1)
  have N1' := Aside0.mk (B2.out.blk (blk_drew N1.out) HG.out.2.2.2.1)
  have SZ := Aside0.mk (show g0 ≤ W2.heap.size ∧ b ≤ W2.heap.size from ⟨Nat.le_trans HG.out.2.2.2.2.2.2 B2.out.size, Nat.le_trans (Nat.le_trans HG.out.2.2.2.2.2.1 HG.out.2.2.2.2.2.2) B2.out.size⟩)
  clear H1 BT N0 N1 M1 M2 B2
  refine Till.begin (fun w' => w'.cell? ⟨g0, 0, none⟩ = some (.pointer (some ⟨q, 0, none⟩)) ∧ w'.cell? ⟨g0 + 1, 0, none⟩ = some (.int .i64 x.1) ∧ w'.cell? ⟨g0 + 1, 1, none⟩ = some (.int .i64 0) ∧ w'.cell? ⟨g0 + 1, 2, none⟩ = some (.int .i64 x.2) ∧ w'.cell? ⟨g0 + 1, 3, none⟩ = some (.int .i64 1) ∧ w'.cell? ⟨g0 + 1, 4, none⟩ = some (.int .i64 0) ∧ w'.cell? ⟨g0 + 1, 5, none⟩ = some (.int .i64 x.2)) (fun w' => w'.cell? ⟨q, 1, none⟩ = some (.slice A l.length c)) [12] (by kernel_rfl) ?_
  have hS : (fun w' => w'.cell? ⟨g0, 0, none⟩ = some (.pointer (some ⟨q, 0, none⟩)) ∧ w'.cell? ⟨g0 + 1, 0, none⟩ = some (.int .i64 x.1) ∧ w'.cell? ⟨g0 + 1, 1, none⟩ = some (.int .i64 0) ∧ w'.cell? ⟨g0 + 1, 2, none⟩ = some (.int .i64 x.2) ∧ w'.cell? ⟨g0 + 1, 3, none⟩ = some (.int .i64 1) ∧ w'.cell? ⟨g0 + 1, 4, none⟩ = some (.int .i64 0) ∧ w'.cell? ⟨g0 + 1, 5, none⟩ = some (.int .i64 x.2)) W2.drew := ⟨(blk_cell N0'.out 0).trans rfl, (blk_cell N1'.out 0).trans rfl, (blk_cell N1'.out 1).trans rfl, (blk_cell N1'.out 2).trans rfl, (blk_cell N1'.out 3).trans rfl, (blk_cell N1'.out 4).trans rfl, (blk_cell N1'.out 5).trans rfl⟩
  have hT : (fun w' => w'.cell? ⟨q, 1, none⟩ = some (.slice A l.length c)) W2.drew := ((blk_cell H2.out.blk 1).trans rfl).trans (congrArg some hv)
  have H2d := Aside0.mk H2.out.drew
  have T2d := Aside0.mk T2.out.drew
  have N0d := Aside0.mk (blk_drew N0'.out)
  have N1d := Aside0.mk (blk_drew N1'.out)
  have SZd := Aside0.mk (show g0 ≤ W2.drew.heap.size ∧ b ≤ W2.drew.heap.size from SZ.out)
  clear H2 T2 N0' N1' SZ
  generalize W2.drew = W3 at hS hT H2d T2d N0d N1d SZd ⊢
  refine Till.takeS 0 (v := ?_) rfl (by kernel_rfl) (by kernel_rfl) (by kernel_rfl) (fun _ _ _ h => h) (Or.inl ⟨by rfl, ?_⟩) hS ?_
  rotate_left; · (intro w hSw; (try dsimp only at hSw); go_simp; try with_reducible rfl)
  try simp only [Act.put, List.setIfInBounds_toArray, List.set_cons_zero, List.set_cons_succ]
  refine Till.takeS 1 (v := ?_) rfl (by kernel_rfl) (by kernel_rfl) (by kernel_rfl) (fun _ _ _ h => h) (Or.inl ⟨by rfl, ?_⟩) hS ?_
  rotate_left; · (intro w hSw; (try dsimp only at hSw); go_simp; try with_reducible rfl)
  try simp only [Act.put, List.setIfInBounds_toArray, List.set_cons_zero, List.set_cons_succ]
  refine Till.takeS 2 (v := ?_) rfl (by kernel_rfl) (by kernel_rfl) (by kernel_rfl) (fun _ _ _ h => h) (Or.inl ⟨by rfl, ?_⟩) hS ?_
  rotate_left; · (intro w hSw; (try dsimp only at hSw); go_simp; try with_reducible rfl)
  try simp only [Act.put, List.setIfInBounds_toArray, List.set_cons_zero, List.set_cons_succ]
  refine Till.takeS 3 (v := ?_) rfl (by kernel_rfl) (by kernel_rfl) (by kernel_rfl) (fun _ _ _ h => h) (Or.inl ⟨by rfl, ?_⟩) hS ?_
  rotate_left; · (intro w hSw; (try dsimp only at hSw); go_simp; try with_reducible rfl)
  try simp only [Act.put, List.setIfInBounds_toArray, List.set_cons_zero, List.set_cons_succ]
  refine Till.takeS 4 (v := ?_) rfl (by kernel_rfl) (by kernel_rfl) (by kernel_rfl) (fun _ _ _ h => h) (Or.inl ⟨by rfl, ?_⟩) hS ?_
  rotate_left; · (intro w hSw; (try dsimp only at hSw); go_simp; try with_reducible rfl)
  try simp only [Act.put, List.setIfInBounds_toArray, List.set_cons_zero, List.set_cons_succ]
  refine Till.takeS 5 (v := ?_) rfl (by kernel_rfl) (by kernel_rfl) (by kernel_rfl) (fun _ _ _ h => h) (Or.inl ⟨by rfl, ?_⟩) hS ?_
  rotate_left; · (intro w hSw; (try dsimp only at hSw); go_simp; try with_reducible rfl)
  try simp only [Act.put, List.setIfInBounds_toArray, List.set_cons_zero, List.set_cons_succ]
  refine Till.take 6 (v := ?_) rfl (by kernel_rfl) (by kernel_rfl) (by kernel_rfl) (by kernel_rfl) (fun _ _ _ h => h) (Or.inl ⟨by rfl, ?_⟩) hS hT ?_
  rotate_left; · (intro w hSw; (try dsimp only at hSw); go_simp; try with_reducible rfl)
  try simp only [Act.put, List.setIfInBounds_toArray, List.set_cons_zero, List.set_cons_succ]
  refine Till.takeS 7 (v := ?_) rfl (by kernel_rfl) (by kernel_rfl) (by kernel_rfl) (fun _ _ _ h => h) (Or.inl ⟨by rfl, ?_⟩) hS ?_
  rotate_left; · (intro w hSw; (try dsimp only at hSw); go_simp; try with_reducible rfl)
  try simp only [Act.put, List.setIfInBounds_toArray, List.set_cons_zero, List.set_cons_succ]
  refine Till.one 8 (by kernel_rfl) rfl (fun K hK => ?_)
  go_simp
  have B4 := Aside0.mk (show Below W3.heap.size W3 (W3.alloc (.cells #[.int .i64 x.1, .int .i64 0, .int .i64 x.2, .int .i64 1, .int .i64 0, .int .i64 x.2] 41 (0, 0))) from below_alloc (Below.refl _ _) _)
  have hS4 : (fun w' => w'.cell? ⟨g0, 0, none⟩ = some (.pointer (some ⟨q, 0, none⟩)) ∧ w'.cell? ⟨g0 + 1, 0, none⟩ = some (.int .i64 x.1) ∧ w'.cell? ⟨g0 + 1, 1, none⟩ = some (.int .i64 0) ∧ w'.cell? ⟨g0 + 1, 2, none⟩ = some (.int .i64 x.2) ∧ w'.cell? ⟨g0 + 1, 3, none⟩ = some (.int .i64 1) ∧ w'.cell? ⟨g0 + 1, 4, none⟩ = some (.int .i64 0) ∧ w'.cell? ⟨g0 + 1, 5, none⟩ = some (.int .i64 x.2)) (W3.alloc (.cells #[.int .i64 x.1, .int .i64 0, .int .i64 x.2, .int .i64 1, .int .i64 0, .int .i64 x.2] 41 (0, 0))) := ⟨pw_cell_below B4.out hS.1, pw_cell_below B4.out hS.2.1, pw_cell_below B4.out hS.2.2.1, pw_cell_below B4.out hS.2.2.2.1, pw_cell_below B4.out hS.2.2.2.2.1, pw_cell_below B4.out hS.2.2.2.2.2.1, pw_cell_below B4.out hS.2.2.2.2.2.2⟩
  have hT4 : (fun w' => w'.cell? ⟨q, 1, none⟩ = some (.slice A l.length c)) (W3.alloc (.cells #[.int .i64 x.1, .int .i64 0, .int .i64 x.2, .int .i64 1, .int .i64 0, .int .i64 x.2] 41 (0, 0))) := pw_cell_below B4.out hT
  refine hK.out _ _ hS4 (fun _ _ => hT4) ?_
  clear hK K B4
  try simp only [Act.put, List.setIfInBounds_toArray, List.set_cons_zero, List.set_cons_succ]
  refine Till.one 9 (by kernel_rfl) rfl (fun K hK => ?_)
  refine Kd.R_append_step kM (w0 := W3) b (by rfl) (.tmp 26) (.tmp 28) 27 41 _ 48 rfl Tryz.underlying27 msgInfo rfl (by decide) (by decide) v l x (mv x) (fun _ => True) (fun _ => False) hv.symm rfl (kM_mkM _ _ _ x) (fun _ h => h.elim) (fun _ _ => trivial) H2d.out.row (Below.refl _ _) SZd.out.2 (by omega) ?_
  intro v1 w1 ho hb hg hat
  clear hb hS4 hT4
  have G1 := Aside0.mk (But.of_grown (S := fun k => some k = v.ownBlock) hg (fun k hk => hk))
  have hS5 : (fun w' => w'.cell? ⟨g0, 0, none⟩ = some (.pointer (some ⟨q, 0, none⟩)) ∧ w'.cell? ⟨g0 + 1, 0, none⟩ = some (.int .i64 x.1) ∧ w'.cell? ⟨g0 + 1, 1, none⟩ = some (.int .i64 0) ∧ w'.cell? ⟨g0 + 1, 2, none⟩ = some (.int .i64 x.2) ∧ w'.cell? ⟨g0 + 1, 3, none⟩ = some (.int .i64 1) ∧ w'.cell? ⟨g0 + 1, 4, none⟩ = some (.int .i64 0) ∧ w'.cell? ⟨g0 + 1, 5, none⟩ = some (.int .i64 x.2)) w1 := ⟨G1.out.cell hS.1 GR.out.2.2.2.1, G1.out.cell hS.2.1 GR.out.2.2.2.2, G1.out.cell hS.2.2.1 GR.out.2.2.2.2, G1.out.cell hS.2.2.2.1 GR.out.2.2.2.2, G1.out.cell hS.2.2.2.2.1 GR.out.2.2.2.2, G1.out.cell hS.2.2.2.2.2.1 GR.out.2.2.2.2, G1.out.cell hS.2.2.2.2.2.2 GR.out.2.2.2.2⟩
  have hT5 : (fun w' => w'.cell? ⟨q, 1, none⟩ = some (.slice A l.length c)) w1 := G1.out.cell hT GR.out.2.2.1
  have R5 := Aside0.mk ho
  have AT5 := Aside0.mk hat
  have Q5 := Aside0.mk (G1.out.blk H2d.out.blk GR.out.2.2.1)
  have M5 := Aside0.mk (H2d.out.map.but G1.out GR.out.2.1)
  have A5 := Aside0.mk H2d.out.all
  have T5 := Aside0.mk (T2d.out.trans (G1.out.mono (fun k hk => Or.inr (Or.inr hk))))
  clear ho hg hat hS hT G1 H2d T2d N0d N1d
  have hS := hS5
  have hT := hT5
  clear hS5 hT5
  refine hK.out _ _ hS (fun _ _ => hT) ?_
  clear hK K
  try simp only [Act.put, List.setIfInBounds_toArray, List.set_cons_zero, List.set_cons_succ]
  refine Till.takeS 10 (v := ?_) rfl (by kernel_rfl) (by kernel_rfl) (by kernel_rfl) (fun _ _ _ h => h) (Or.inl ⟨by rfl, ?_⟩) hS ?_
  rotate_left; · (intro w hSw; (try dsimp only at hSw); go_simp; try with_reducible rfl)
  try simp only [Act.put, List.setIfInBounds_toArray, List.set_cons_zero, List.set_cons_succ]
  refine Till.takeS 11 (v := ?_) rfl (by kernel_rfl) (by kernel_rfl) (by kernel_rfl) (fun _ _ _ h => h) (Or.inl ⟨by rfl, ?_⟩) hS ?_
  rotate_left; · (intro w hSw; (try dsimp only at hSw); go_simp; try with_reducible rfl)
  try simp only [Act.put, List.setIfInBounds_toArray, List.set_cons_zero, List.set_cons_succ]
  obtain ⟨n1, A1, c1, e1⟩ : ∃ n1 A1 c1, v1 = .slice A1 n1 c1 := by
    obtain ⟨A1, c1, e1⟩ := Kd.R_slice R5.out
    exact ⟨_, A1, c1, e1⟩
  subst e1
  have fz := blk_frozen Q5.out 1
  refine Till.one 12 (by kernel_rfl) rfl (fun K hK => ?_)
  go_simp
  clear fz
  have BS := Aside0.mk (But.set (S := fun k => k = q) (But.refl _ w1) (p := ⟨q, 1, none⟩) rfl (.slice A1 n1 c1))
  have hS6 : (fun w' => w'.cell? ⟨g0, 0, none⟩ = some (.pointer (some ⟨q, 0, none⟩)) ∧ w'.cell? ⟨g0 + 1, 0, none⟩ = some (.int .i64 x.1) ∧ w'.cell? ⟨g0 + 1, 1, none⟩ = some (.int .i64 0) ∧ w'.cell? ⟨g0 + 1, 2, none⟩ = some (.int .i64 x.2) ∧ w'.cell? ⟨g0 + 1, 3, none⟩ = some (.int .i64 1) ∧ w'.cell? ⟨g0 + 1, 4, none⟩ = some (.int .i64 0) ∧ w'.cell? ⟨g0 + 1, 5, none⟩ = some (.int .i64 x.2)) (w1.setCell ⟨q, 1, none⟩ (.slice A1 n1 c1)) := ⟨BS.out.cell hS.1 HG.out.1, BS.out.cell hS.2.1 HG.out.2.2.1, BS.out.cell hS.2.2.1 HG.out.2.2.1, BS.out.cell hS.2.2.2.1 HG.out.2.2.1, BS.out.cell hS.2.2.2.2.1 HG.out.2.2.1, BS.out.cell hS.2.2.2.2.2.1 HG.out.2.2.1, BS.out.cell hS.2.2.2.2.2.2 HG.out.2.2.1⟩
  refine hK.out _ _ hS6 (fun h => absurd h (by decide)) ?_
  clear hK K
  try simp only [Act.put, List.setIfInBounds_toArray, List.set_cons_zero, List.set_cons_succ]
  refine Till.done (by kernel_rfl) ?_
  go_end0
  refine ⟨rfl, .slice A1 n1 c1, ?_, T5.out.trans (BS.out.mono (fun k hk => Or.inl hk)), ?_⟩
  · exact { blk := blk_put Q5.out 1 _ rfl, row := Kd.R_mono (Kd.R_far (Kd.R_tight rfl R5.out) (p := ⟨q, 1, none⟩) (fun k hk e => Kd.R_ne R5.out Q5.out (by decide) (by rw [← hk, show k = q from e])) _) (fun _ _ => trivial), map := M5.out.but BS.out GR.out.1.symm, all := fun y hy => (List.mem_append.1 hy).elim (A5.out y) (fun h => by rw [List.mem_singleton.1 h]; exact HX.out) }
  · exact AT5.out.imp id (fun ⟨k, h1, h2⟩ => ⟨k, h1, by rw [HE.out]; exact Nat.le_trans SZd.out.1 h2⟩)
set_option maxHeartbeats 4000000 in
theorem fpop_calls (H : Qu w q r b v l p) (n : Nat) (hl : l.length = n + 1) (hs : n ≤ 1000) : Calls Tryz.prog 117 #[.agg #[.pointer (some ⟨q, 0, none⟩)]] w fun e w' => e = .returned (.iface 41 (mvv (g l n))) ∧ ∃ v', Qu w' q r b v' (l.take n) p ∧ But (Zq q r v) w w' ∧ v'.ownBlock = v.ownBlock := by
  obtain ⟨gb, c, hv, -⟩ := H.at n (by omega)
  have hwn : wrap64 (n : Int) = (n : Int) := by unfold wrap64; omega
  have hcn := Aside0.mk (show n + 1 ≤ c from by
    have := (Kd.R_reads' (hv ▸ H.row)).2.1
    omega)
  obtain ⟨x, hx⟩ : ∃ x, g l n = x := ⟨_, rfl⟩
  rw [hx]
  have PX := Aside0.mk hx
  clear hx
  have hnl : (n : Int) < (l.length : Int) := by omega
  have B1 := Aside0.mk (show Below w.heap.size w (w.alloc (.cells #[.pointer (some ⟨q, 0, none⟩)] 100)) from below_alloc (Below.refl _ _) _)
  have H1 := Aside0.mk (H.below B1.out)
  have BT := Aside0.mk (But.of_below (S := Zq q r v) B1.out)
  have N0 := Aside0.mk (blk_new w (.cells #[.pointer (some ⟨q, 0, none⟩)] 100))
  have HG := Aside0.mk (show w.heap.size ≠ q ∧ w.heap.size ≠ r ∧ w.heap.size ≠ gb from by
    have h1 := blk_lt H.blk
    obtain ⟨es, cc, h, _⟩ := H.map
    have h2 := blk_lt h
    have h3 := Kd.R_lt H.row gb (by rw [hv]; rfl)
    omega)
  clear H
  go_enter Tryz.func117, Tryz.ntmps117
  go_upto_region 1 with (fail)
  generalize (w.alloc (.cells #[.pointer (some ⟨q, 0, none⟩)] 100)) = W at H1 N0 BT B1 ⊢
  generalize w.heap.size = g0 at N0 HG ⊢
  subst hv
  obtain ⟨i0, i1, i2, i3, i4, i5⟩ := H1.out.six n (by omega) rfl
  rw [PX.out] at i0 i2 i5
  have n0 : W.cell? ⟨g0, 0, none⟩ = some (.pointer (some ⟨q, 0, none⟩)) := (blk_cell N0.out 0).trans rfl
  have k1 : W.cell? ⟨q, 1, none⟩ = some (.slice (some ⟨gb, 0, none⟩) l.length c) := (blk_cell H1.out.blk 1).trans rfl
  rw [hl] at k1
  go_upto_region 3 with (fail)
  have E2 := Aside0.mk (show Below W.heap.size W (W.alloc (.cells #[.int .i64 x.1, .int .i64 0, .int .i64 x.2, .int .i64 1, .int .i64 0, .int .i64 x.2] 41 (0, 0))) from below_alloc (Below.refl _ _) _)
  have M2 := Aside0.mk (blk_new W (.cells #[.int .i64 x.1, .int .i64 0, .int .i64 x.2, .int .i64 1, .int .i64 0, .int .i64 x.2] 41 (0, 0)))
  have H2 := Aside0.mk (H1.out.below E2.out)
  have T2 := Aside0.mk (BT.out.then_ E2.out)
  have N2 := Aside0.mk (blk_below N0.out E2.out)
  have G2 := Aside0.mk (show W.heap.size ≠ q ∧ W.heap.size ≠ r ∧ W.heap.size ≠ gb from by
    have h1 := blk_lt H1.out.blk
    obtain ⟨es, cc, h, _⟩ := H1.out.map
    have h2 := blk_lt h
    have h3 := Kd.R_lt H1.out.row gb rfl
    omega)
  clear n0 k1 i0 i1 i2 i3 i4 i5 H1 BT N0 E2 B1
  generalize (W.alloc (.cells #[.int .i64 x.1, .int .i64 0, .int .i64 x.2, .int .i64 1, .int .i64 0, .int .i64 x.2] 41 (0, 0))) = W2 at M2 H2 T2 N2 ⊢
  generalize W.heap.size = g2 at M2 G2 ⊢
  have n0 : W2.cell? ⟨g0, 0, none⟩ = some (.pointer (some ⟨q, 0, none⟩)) := (blk_cell N2.out 0).trans rfl
  have k1 : W2.cell? ⟨q, 1, none⟩ = some (.slice (some ⟨gb, 0, none⟩) l.length c) := (blk_cell H2.out.blk 1).trans rfl
  rw [hl] at k1
  refine wp_region_still_tail 9 (by kernel_rfl) (by kernel_rfl) ?_
  simp only [List.take_succ_cons, List.take_zero, List.drop_succ_cons, List.drop_zero]
  have hnc := hcn.out
  replace hnc : n ≤ c := by omega
  iterate 9 still_step
  refine wpStill_nil ?_
  have H3 := Aside0.mk H2.out.drew
  have T3 := Aside0.mk T2.out.drew
  have N3 := Aside0.mk (blk_drew N2.out)
  have M3 := Aside0.mk (blk_drew M2.out)
  clear n0 k1 H2 T2 N2 M2
  change wpList _ _ _ _ _ W2.drew
  generalize W2.drew = W3 at H3 T3 N3 M3 ⊢
  have fz := blk_frozen H3.out.blk 1
  have k1 : W3.cell? ⟨q, 1, none⟩ = some (.slice (some ⟨gb, 0, none⟩) l.length c) := (blk_cell H3.out.blk 1).trans rfl
  go_upto_region 4 with (fail)
  have BS := Aside0.mk (But.set (S := fun k => k = q) (But.refl _ W3) (p := ⟨q, 1, none⟩) rfl (.slice (some ⟨gb, 0, none⟩) n c))
  have H4 := Aside0.mk (show Qu (W3.setCell ⟨q, 1, none⟩ (.slice (some ⟨gb, 0, none⟩) n c)) q r b (.slice (some ⟨gb, 0, none⟩) n c) (l.take n) p from
    { blk := blk_put H3.out.blk 1 _ rfl
      row := Kd.R_mono (Kd.R_far (Kd.R_tight rfl (Kd.R_take H3.out.row (m := n) (by omega))) (p := ⟨q, 1, none⟩) (fun k hk e => H3.out.qv (by rw [← show k = q from e]; exact hk)) _) (fun _ _ => trivial)
      map := H3.out.map.but BS.out H3.out.qr.symm
      all := fun y hy => H3.out.all y (List.mem_of_mem_take hy) })
  have T4 := Aside0.mk (T3.out.trans (BS.out.mono (fun k hk => Or.inl hk)))
  have N4 := Aside0.mk (BS.out.blk N3.out HG.out.1)
  have M4 := Aside0.mk (BS.out.blk M3.out G2.out.1)
  clear fz k1 BS H3 T3 N3 M3
  generalize W3.setCell ⟨q, 1, none⟩ (.slice (some ⟨gb, 0, none⟩) n c) = W4 at H4 T4 N4 M4 ⊢
  have n0 : W4.cell? ⟨g0, 0, none⟩ = some (.pointer (some ⟨q, 0, none⟩)) := (blk_cell N4.out 0).trans rfl
  have k2 : W4.cell? ⟨q, 2, none⟩ = some (.map (some r)) := (blk_cell H4.out.blk 2).trans rfl
  have m0 : W4.cell? ⟨g2, 0, none⟩ = some (.int .i64 x.1) := (blk_cell M4.out 0).trans rfl
  have m1 : W4.cell? ⟨g2, 1, none⟩ = some (.int .i64 0) := (blk_cell M4.out 1).trans rfl
  have m2 : W4.cell? ⟨g2, 2, none⟩ = some (.int .i64 x.2) := (blk_cell M4.out 2).trans rfl
  refine wp_region_still_tail 7 (by kernel_rfl) (by kernel_rfl) ?_
  simp only [List.take_succ_cons, List.take_zero, List.drop_succ_cons, List.drop_zero]
  iterate 7 still_step
  refine wpStill_nil ?_
  have H5 := Aside0.mk H4.out.drew
  have T5 := Aside0.mk T4.out.drew
  have M5 := Aside0.mk (blk_drew M4.out)
  clear n0 k2 m0 m1 m2 H4 T4 N4 M4
  change wpList _ _ _ _ _ W4.drew
  generalize W4.drew = W5 at H5 T5 M5 ⊢
  go_upto_region 5 with (refine wpk_del rfl (.tmp 35) (.tmp 37) rfl rfl x rfl H5.out.map ?_; intro W6 hm hb; have E6 := Aside0.mk hm; have B6 := Aside0.mk hb; clear hm hb)
  have H6 := Aside0.mk (show Qu W6 q r b (.slice (some ⟨gb, 0, none⟩) n c) (l.take n) p from { blk := B6.out.blk H5.out.blk H5.out.qr, row := Kd.R_mono (Kd.R_step (Kd.R_tight rfl H5.out.row) (fun k hk hlt => B6.out.block k hlt (fun e => H5.out.rv (by rw [← e]; exact hk)))) (fun _ _ => trivial), map := E6.out, all := H5.out.all })
  have T6 := Aside0.mk (T5.out.trans (B6.out.mono (fun k hk => Or.inr (Or.inl hk))))
  have M6 := Aside0.mk (B6.out.blk M5.out G2.out.2.1)
  clear H5 T5 M5 B6 E6
  have m0 : W6.cell? ⟨g2, 0, none⟩ = some (.int .i64 x.1) := (blk_cell M6.out 0).trans rfl
  have m1 : W6.cell? ⟨g2, 1, none⟩ = some (.int .i64 0) := (blk_cell M6.out 1).trans rfl
  have m2 : W6.cell? ⟨g2, 2, none⟩ = some (.int .i64 x.2) := (blk_cell M6.out 2).trans rfl
  have m3 : W6.cell? ⟨g2, 3, none⟩ = some (.int .i64 1) := (blk_cell M6.out 3).trans rfl
  have m4 : W6.cell? ⟨g2, 4, none⟩ = some (.int .i64 0) := (blk_cell M6.out 4).trans rfl
  have m5 : W6.cell? ⟨g2, 5, none⟩ = some (.int .i64 x.2) := (blk_cell M6.out 5).trans rfl
  go_wp2
  go_ret
  exact ⟨rfl, _, H6.out, T6.out, rfl⟩
end
end Go.Proofs.YtaaaocckfnlgdaaGreatDoorT
/- container/heap over a queue: up, down, Push, Pop. -/
namespace Go.Proofs.YtaaaocckfnlgdaaGreatDoorT
open Go.RowKit Go.Sort Go.Proofs.YtaaaocckfnlgdaaGreatDoorW.PrintWords Go.Proofs.YtaaaocckfnlgdaaGreatDoorW.PrintLast Go.Proofs.YtaaaocckfnlgdaaGreatDoorW.PrintMore Go.Proofs.YtaaaocckfnlgdaaGreatDoor.PBase Go.Proofs.YtaaaocckfnlgdaaGreatDoorH Go.Proofs.YtaaaocckfnlgdaaGreatDoorK
set_option maxRecDepth 100000
set_option linter.unusedVariables false
set_option linter.unusedSimpArgs false
/-- A queue as the heap holds it. -/
def fv (q : Nat) : Value := .iface 100 (.agg #[.pointer (some ⟨q, 0, none⟩)])
theorem meth_less (q : Nat) (w : World) : (method 307 100 (.agg #[.pointer (some ⟨q, 0, none⟩)]) "Less").run Tryz.prog w = .ok (116, .agg #[.pointer (some ⟨q, 0, none⟩)]) w := by kernel_rfl
theorem meth_swap (q : Nat) (w : World) : (method 307 100 (.agg #[.pointer (some ⟨q, 0, none⟩)]) "Swap").run Tryz.prog w = .ok (119, .agg #[.pointer (some ⟨q, 0, none⟩)]) w := by kernel_rfl
theorem meth_len (q : Nat) (w : World) : (method 307 100 (.agg #[.pointer (some ⟨q, 0, none⟩)]) "Len").run Tryz.prog w = .ok (115, .agg #[.pointer (some ⟨q, 0, none⟩)]) w := by kernel_rfl
theorem meth_push (q : Nat) (w : World) : (method 307 100 (.agg #[.pointer (some ⟨q, 0, none⟩)]) "Push").run Tryz.prog w = .ok (118, .agg #[.pointer (some ⟨q, 0, none⟩)]) w := by kernel_rfl
theorem meth_pop (q : Nat) (w : World) : (method 307 100 (.agg #[.pointer (some ⟨q, 0, none⟩)]) "Pop").run Tryz.prog w = .ok (117, .agg #[.pointer (some ⟨q, 0, none⟩)]) w := by kernel_rfl
section
variable {w : World} {q r b : Nat} {v : Value} {l : List Mg} {p : Mg → Prop}
theorem Zq_congr {q r : Nat} {v v' : Value} (h : v'.ownBlock = v.ownBlock) : ∀ k, Zq q r v' k → Zq q r v k := fun k hk => by
  unfold Zq at hk ⊢
  rwa [h] at hk
set_option maxHeartbeats 4000000 in
theorem up_calls (H : Qu w q r b v l p) (j : Nat) (hj : j < l.length) (hs : l.length ≤ 1000) (hu : HeapUp l j) :
    Calls Tryz.prog 71 #[fv q, .int .i64 (j : Int)] w fun e w' => e = .returned (.tuple #[]) ∧ ∃ l', Qu w' q r b v l' p ∧ l'.Perm l ∧ HeapN l' l'.length ∧ But (Zq q r v) w w' := by
  have HH := Aside0.mk H
  have HU := Aside0.mk hu
  clear H hu
  go_enter Tryz.func71, Tryz.ntmps71
  unfold fv
  have ml := meth_less q
  have ms := meth_swap q
  go_wp2
  go_loopw [1] (fun v1 wr => ∃ (k : Nat) (l' : List Mg), v1 = .int .i64 k ∧ k < l'.length ∧ Aside0 (Qu wr q r b v l' p) ∧ Aside0 (l'.Perm l) ∧ Aside0 (HeapUp l' k) ∧ Aside0 (But (Zq q r v) w wr)) (fun k _ => (intOf k).toNat)
  case atStart => exact ⟨j, l, rfl, hj, HH, ⟨List.Perm.refl _⟩, HU, ⟨But.refl _ _⟩⟩
  case round =>
    obtain ⟨k, l', rfl, hk, QR, PR, UR, BR⟩ := hrel
    by_cases h0 : k = 0
    · subst h0
      go_wp2
      go_end0
      exact ⟨rfl, l', QR.out, PR.out, up_stop UR.out (Or.inl rfl), BR.out⟩
    · obtain ⟨pn, hpn⟩ : ∃ pn, pn = (k - 1) / 2 := ⟨_, rfl⟩
      have hsl : k ≤ 1000 := by have := PR.out.length_eq; omega
      have PH := Aside0.mk (show pn < k ∧ (k - 1) / 2 = pn from ⟨by omega, hpn.symm⟩)
      have hpi : ((k : Int) - 1) / 2 = (pn : Int) := by omega
      have hpt : Int.tdiv ((k : Int) - 1) 2 = (pn : Int) := by rw [Int.tdiv_eq_ediv_of_nonneg (by omega)]; exact hpi
      have hne : ((pn : Int) == (k : Int)) = false := by simp; omega
      have CL := Aside0.mk (fless_calls QR.out k pn hk (by omega))
      have CS := Aside0.mk (fun W (hW : Below wr.heap.size wr W) => fswap_calls (QR.out.below hW) pn k (by omega) hk)
      clear hpn
      cases hc : klt (g l' k) (g l' pn) with
      | false =>
        rw [hc] at CL
        go_wp2_with (go_at_call 116; (with_reducible refine CL.out.mono ?_); rintro e w2 ⟨rfl, hb⟩; have B2 := Aside0.mk hb; clear hb)
        go_end0
        exact ⟨rfl, l', QR.out.below B2.out, PR.out, up_stop UR.out (Or.inr (by rw [PH.out.2]; exact klt_no hc)), BR.out.then_ B2.out⟩
      | true =>
        rw [hc] at CL
        go_wp2_with (first | (go_at_call 116; (with_reducible refine CL.out.mono ?_); rintro e w2 ⟨rfl, hb⟩; have B2 := Aside0.mk hb; clear hb) | (go_at_call 119; (with_reducible refine (CS.out _ B2.out).mono ?_); rintro e w3 ⟨rfl, hq, hb⟩; have Q3 := Aside0.mk hq; have B3 := Aside0.mk hb; clear hq hb))
        go_roundw
        case rel => exact ⟨pn, sw l' pn k, rfl, by rw [sw_len]; have := PH.out.1; omega, Q3, ⟨(sw_perm l' pn k (by have := PH.out.1; omega) hk).trans PR.out⟩, ⟨by
          have h := up_step UR.out hk (by omega) (by rw [PH.out.2]; exact klt_yes hc)
          rw [PH.out.2] at h
          exact h⟩, ⟨(BR.out.then_ B2.out).trans B3.out⟩⟩
        case measure => simp [intOf]; have := PH.out.1; omega
theorem Zq_join {w w2 w3 : World} {q r : Nat} {v v' : Value} (h1 : But (Zq q r v) w w2) (h2 : But (Zq q r v') w2 w3) (hv : v'.ownBlock = v.ownBlock ∨ ∃ k, v'.ownBlock = some k ∧ w.heap.size ≤ k) : But (Zq q r v) w w3 :=
  ⟨h2.os.trans h1.os, h2.tape.trans h1.tape, h2.output.trans h1.output, Nat.le_trans h1.size h2.size, fun i hi hn => (h2.block i (Nat.lt_of_lt_of_le hi h1.size) (fun hz => by
    rcases hz with h | h | h
    · exact hn (Or.inl h)
    · exact hn (Or.inr (Or.inl h))
    · rcases hv with e | ⟨k, e, hk⟩
      · exact hn (Or.inr (Or.inr (h.trans e)))
      · rw [e] at h
        cases h
        omega)).trans (h1.block i hi hn)⟩
set_option maxHeartbeats 4000000 in
theorem hpush_calls (H : Qu w q r b v l p) (hb : b ≤ w.heap.size) (hl : l.length ≤ 900) (hh : HeapN l l.length) (x : Mg) (hx : p x) : Calls Tryz.prog 53 #[fv q, .iface 41 (mvv x)] w fun e w' => e = .returned (.tuple #[]) ∧ ∃ v' l', Qu w' q r b v' l' p ∧ l'.Perm (l ++ [x]) ∧ HeapN l' l'.length ∧ But (Zq q r v) w w' ∧ (v'.ownBlock = v.ownBlock ∨ ∃ k, v'.ownBlock = some k ∧ w.heap.size ≤ k) := by
  have C1 := Aside0.mk (fpush_calls H hb (by omega) x hx)
  have hu := Aside0.mk (up_start x hh)
  have hlen := Aside0.mk hl
  have en : (l ++ [x]).length = l.length + 1 := by simp
  have EN := Aside0.mk en
  clear H hb hl hh hx en
  generalize mvv x = xv at C1 ⊢
  go_enter Tryz.func53, Tryz.ntmps53
  unfold fv
  have ml := meth_len q
  have mp := meth_push q
  go_upto_region 1 with (go_at_call 118; (with_reducible refine C1.out.mono ?_); rintro e w2 ⟨rfl, v2, hq, hb, hv⟩; have Q2 := Aside0.mk hq; have B2 := Aside0.mk hb; have V2 := Aside0.mk hv; clear hq hb hv)
  have C2 := Aside0.mk (flen_calls Q2.out)
  rw [EN.out] at C2
  have hwn : wrap64 ((l.length : Int)) = (l.length : Int) := by have := hlen.out; unfold wrap64; omega
  go_wp2_with (first | (go_at_call 115; (with_reducible refine C2.out.mono ?_); rintro e w3 ⟨rfl, hb⟩; have B3 := Aside0.mk hb; have c4 := up_calls (Q2.out.below hb) l.length (by rw [EN.out]; omega) (by rw [EN.out]; have := hlen.out; omega) hu.out; unfold fv at c4; have C4 := Aside0.mk c4; clear hb c4) | (go_at_call 71; (with_reducible refine C4.out.mono ?_); rintro e w4 ⟨rfl, l4, hq, hp, hh, hb⟩; have Q4 := Aside0.mk hq; have P4 := Aside0.mk hp; have H4 := Aside0.mk hh; have B4 := Aside0.mk hb; clear hq hp hh hb))
  go_end0
  exact ⟨rfl, v2, l4, Q4.out, P4.out, H4.out, Zq_join (B2.out.then_ B3.out) B4.out V2.out, V2.out⟩
end
end Go.Proofs.YtaaaocckfnlgdaaGreatDoorT
