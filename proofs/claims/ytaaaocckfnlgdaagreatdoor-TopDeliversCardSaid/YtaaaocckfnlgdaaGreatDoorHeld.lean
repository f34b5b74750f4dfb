/- A region that draws its order, whose last operation (number L: it waits for the others) may undo what all the others lean on: S is asked behind every operation but that one. -/
import Derived.WalkKit
import Derived.OrdersHeld
namespace Go.Proofs.YtaaaocckfnlgdaaGreatDoorH
open Go
set_option linter.unusedVariables false
section
variable {P : Program} {ops : Array Oper} {Q : Exit → Act → World → Prop} {md : Region.Mode} {S : World → Prop} {L : Nat}

/-- Whatever order is picked from here on; S holds behind each that is carried out, but for number L. -/
def Till (P : Program) (md : Region.Mode) (ops : Array Oper) (Q : Exit → Act → World → Prop) (S : World → Prop) (L : Nat) : Nat → Array Bool → Act → World → Prop
  | 0, listed, a, w => Region.ready md ops listed = [] ∧ Q .normal a w
  | fuel + 1, listed, a, w =>
    (Region.ready md ops listed = [] → Q .normal a w) ∧
    ∀ i ∈ Region.ready md ops listed, wpOp P ops Q i (fun a' w' => (i ≠ L → S w') ∧ Till P md ops Q S L fuel (listed.setIfInBounds i true) a' w') a w

theorem Till.any : ∀ (fuel : Nat) (listed : Array Bool) (a : Act) (w : World), Till P md ops Q S L fuel listed a w → wpAny P md ops Q fuel listed a w
  | 0, _, _, _, h => h
  | fuel + 1, _, _, _, h => ⟨h.1, fun i hi => wpOp_mono (fun a' w' h' => Till.any fuel _ a' w' h'.2) (h.2 i hi)⟩

/-- Does number L wait for number i? -/
def waits (md : Region.Mode) (ops : Array Oper) (L i : Nat) : Bool :=
  match ops[L]? with
  | none => true
  | some o => o.after.any fun e => Region.binds md e && e.on == i

theorem Till.first {i : Nat} {oi : Oper} {v : Value} (hi : ops[i]? = some oi) (hsel : ∀ (j : Nat) (o : Oper) cs b, ops[j]? = some o → o.op ≠ .select cs b)
    (hQ : ∀ c a w, Q (.panic c) (a.put oi.dst v) w → Q (.panic c) a w) (hL : waits md ops L i = true) :
    ∀ (fuel : Nat) (listed : Array Bool) (a : Act) (w : World),
      (∀ j oj, ops[j]? = some oj → j ≠ i → listed.getD j true = false → (∀ e ∈ oj.after, Region.binds md e = true → e.on ≠ i) → oi.apart ops oj = true) →
      i ∈ Region.ready md ops listed → YieldsIf P ops S oi v a → S w →
      Till P md ops Q S L fuel (listed.setIfInBounds i true) (a.put oi.dst v) w → Till P md ops Q S L (fuel + 1) listed a w := by
  intro fuel
  induction fuel with
  | zero =>
    intro listed a w _ hr hy hS H
    refine ⟨fun h => (by rw [h] at hr; cases hr), fun j hj => ?_⟩
    by_cases hji : j = i
    · subst hji
      exact hy.wpOp hi hS ⟨fun _ => hS, H⟩
    · have := ready_mono hj hji
      rw [H.1] at this
      cases this
  | succ fuel ih =>
    intro listed a w hfree hr hy hS H
    refine ⟨fun h => (by rw [h] at hr; cases hr), fun j hj => ?_⟩
    by_cases hji : j = i
    · subst hji
      exact hy.wpOp hi hS ⟨fun _ => hS, H⟩
    · have h1 := H.2 j (ready_mono hj hji)
      obtain ⟨hjun, oj, hoj, hall⟩ := mem_ready.1 hj
      have hnot : ∀ e ∈ oj.after, Region.binds md e = true → e.on ≠ i := fun e he hb heq => by
        have h1 := hall e he hb
        have h0 := (mem_ready.1 hr).1
        rw [heq] at h1
        rcases Nat.lt_or_ge i listed.size with h' | h'
        · simp [h'] at h0 h1
          rw [h0] at h1
          cases h1
        · simp [Array.getElem?_eq_none h'] at h1
      have hjL : j ≠ L := by
        rintro rfl
        unfold waits at hL
        rw [hoj] at hL
        obtain ⟨e, he, hb⟩ := Array.any_eq_true'.1 hL
        simp only [Bool.and_eq_true, beq_iff_eq] at hb
        exact hnot e he hb.1 hb.2
      have h2 := wpOp_putIf hoj (hfree j oj hoj hji hjun hnot) (fun cs b => hsel i oi cs b hi) (fun cs b => hsel j oj cs b hoj) hQ hy h1
      have hfree' : ∀ k ok, ops[k]? = some ok → k ≠ i → (listed.setIfInBounds j true).getD k true = false →
          (∀ e ∈ ok.after, Region.binds md e = true → e.on ≠ i) → oi.apart ops ok = true := fun k ok hk hki hun hno => by
        refine hfree k ok hk hki ?_ hno
        by_cases hjk : j = k
        · subst hjk
          exact hjun
        · rw [getD_set_ne true hjk] at hun
          exact hun
      refine wpOp_mono (fun a' w' h3 => ⟨h3.2.1, ih (listed.setIfInBounds j true) a' w' hfree' (ready_mono hr (Ne.symm hji)) h3.1 (h3.2.1 hjL) ?_⟩) h2
      rw [Array.setIfInBounds_comm _ _ hji]
      exact h3.2.2

/-- The element at a place, written out. -/
def nth {α : Type} : List α → Nat → Option α
  | [], _ => none
  | x :: _, 0 => some x
  | _ :: l, n + 1 => nth l n
theorem nth_of {α : Type} : ∀ {l : List α} {n : Nat} {x : α}, nth l n = some x → l[n]? = some x
  | [], _, _, h => by cases h
  | _ :: _, 0, _, h => by simpa [nth] using h
  | _ :: l, n + 1, _, h => by simpa using nth_of (l := l) h
theorem nth_ops {ops : Array Oper} {n : Nat} {o : Oper} (h : nth ops.toList n = some o) : ops[n]? = some o := by
  have := nth_of h
  simpa using this
/-- Number i is taken first: it yields v in every world that meets S. -/
theorem Till.take (i : Nat) {oi : Oper} {v : Value} {fuel : Nat} {listed : Array Bool} {a : Act} {w : World} (hi' : nth ops.toList i = some oi)
    (hs : Region.noSelect ops = true) (hf : Region.free md ops listed i = true) (hr : (Region.ready md ops listed).contains i = true) (hL : waits md ops L i = true)
    (hQ : ∀ c a w, Q (.panic c) (a.put oi.dst v) w → Q (.panic c) a w) (hy : YieldsIf P ops S oi v a) (hS : S w)
    (h : Till P md ops Q S L fuel (listed.setIfInBounds i true) (a.put oi.dst v) w) : Till P md ops Q S L (fuel + 1) listed a w :=
  have hi := nth_ops hi'
  Till.first hi (Region.noSelect_spec hs) hQ hL fuel listed a w (Region.free_spec hi hf) (by simpa using hr) hy hS h

/-- A hypothesis that no tactic looks into. -/
structure Way (p : Prop) : Prop where
  out : p

/-- One alone may come up. -/
theorem Till.one (i : Nat) {o : Oper} {fuel : Nat} {listed : Array Bool} {a : Act} {w : World} (hr : Region.ready md ops listed = [i]) (ho : nth ops.toList i = some o)
    (h : ∀ K' : Act → World → Prop, Way (∀ a w, S w → Till P md ops Q S L fuel (listed.setIfInBounds i true) a w → K' a w) → if Region.wanted o (yielded ops a.tmps) = true then Oper.wp P o a w K' Q else K' (a.put o.dst undef) w) :
    Till P md ops Q S L (fuel + 1) listed a w := by
  refine ⟨fun h0 => (by rw [hr] at h0; cases h0), fun j hj => ?_⟩
  rw [hr] at hj
  obtain rfl := List.mem_singleton.1 hj
  exact wpOp_step (nth_ops ho) (fun K' hK => h K' ⟨fun a w hS hW => hK a w ⟨fun _ => hS, hW⟩⟩)

/-- The last: number L. -/
theorem Till.last (L : Nat) {o : Oper} {fuel : Nat} {listed : Array Bool} {a : Act} {w : World} (hr : Region.ready md ops listed = [L]) (ho : nth ops.toList L = some o) (hn : Region.ready md ops (listed.setIfInBounds L true) = [])
    (h : ∀ K' : Act → World → Prop, Way (∀ a w, Q .normal a w → K' a w) → if Region.wanted o (yielded ops a.tmps) = true then Oper.wp P o a w K' Q else K' (a.put o.dst undef) w) :
    Till P md ops Q S L (fuel + 1) listed a w := by
  refine ⟨fun h0 => (by rw [hr] at h0; cases h0), fun j hj => ?_⟩
  rw [hr] at hj
  obtain rfl := List.mem_singleton.1 hj
  refine wpOp_step (nth_ops ho) (fun K' hK => h K' ⟨fun a w hQ => hK a w ⟨fun h => absurd rfl h, ?_⟩⟩)
  cases fuel with
  | zero => exact ⟨hn, hQ⟩
  | succ fuel => exact ⟨fun _ => hQ, by rw [hn]; simp⟩

theorem Till.done {fuel : Nat} {listed : Array Bool} {a : Act} {w : World} (hr : Region.ready md ops listed = []) (h : Q .normal a w) : Till P md ops Q S L fuel listed a w := by
  cases fuel with
  | zero => exact ⟨hr, h⟩
  | succ fuel => exact ⟨fun _ => h, by rw [hr]; simp⟩
theorem Till.begin (L : Nat) (S : World → Prop) {id : Nat} {a : Act} {w : World} (hm : P.follows .mixedOrders = true)
    (h : Till P .any ops Q S L ops.size (Array.replicate ops.size false) a w.drew) : (Code.region id ops true).wp P Q a w :=
  wp_region_any hm (Till.any _ _ _ _ h)
end
end Go.Proofs.YtaaaocckfnlgdaaGreatDoorH
