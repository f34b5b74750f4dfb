/- slices.IndexFunc and slices.ContainsFunc at slices of structs, whatever the predicate: what they hand back, in plain lists. -/
import Derived.Test.YtdlagficilbbbaaProg
import Derived.Test.YtdlagficilbbbaaWWords
import Derived.Shelf.Abstract
import Derived.Shelf.RegionOpen
import Derived.WalkKit
import Derived.Deep.LoopGhost
import Derived.BigQuiet
namespace Go.Proofs.YtdlagficilbbbaaI
open Go Go.RowKit Go.Shelf Go.Proofs.YtdlagficilbbbaaW.PrintWords
set_option linter.unusedVariables false
set_option linter.unusedSimpArgs false

/-- Where the first of which q holds stands; -1. -/
def idx {α : Type} (q : α → Bool) : List α → Int
  | [] => -1
  | x :: l => if q x = true then 0 else if idx q l < 0 then -1 else idx q l + 1
theorem idx_range {α : Type} (q : α → Bool) (l : List α) : -1 ≤ idx q l ∧ idx q l < (l.length : Int) := by
  induction l with
  | nil => simp [idx]
  | cons x l ih =>
    simp only [idx, List.length_cons]
    split
    · omega
    · split <;> omega
theorem idx_append {α : Type} (q : α → Bool) (l l' : List α) (h : ∀ x ∈ l, q x = false) : idx q (l ++ l') = if idx q l' < 0 then -1 else idx q l' + l.length := by
  induction l with
  | nil =>
    have := idx_range q l'
    simp only [List.nil_append, List.length_nil]
    split <;> omega
  | cons x l ih =>
    have hx := h x List.mem_cons_self
    have ih' := ih (fun y hy => h y (List.mem_cons_of_mem _ hy))
    simp only [List.cons_append, idx, hx, Bool.false_eq_true, if_false, ih', List.length_cons]
    by_cases h' : idx q l' < 0
    · rw [if_pos h', if_pos h', if_pos (by omega)]
    · have := idx_range q l
      rw [if_neg h', if_neg h', if_neg (by omega)]
      omega
theorem idx_none {α : Type} (q : α → Bool) (l : List α) (h : ∀ x ∈ l, q x = false) : idx q l = -1 := by
  have := idx_append q l [] h
  rw [List.append_nil] at this
  rw [this]
  simp [idx]
theorem idx_iff {α : Type} (q : α → Bool) (l : List α) : 0 ≤ idx q l ↔ l.any q = true := by
  induction l with
  | nil => simp [idx]
  | cons x l ih =>
    have := idx_range q l
    rw [List.any_cons, Bool.or_eq_true, ← ih, idx]
    by_cases hq : q x = true
    · rw [if_pos hq]
      exact ⟨fun _ => .inl hq, fun _ => Int.le_refl _⟩
    · rw [if_neg hq]
      by_cases h' : idx q l < 0
      · rw [if_pos h']
        exact ⟨fun h => by omega, fun h => h.elim (fun h => absurd h hq) (fun h => by omega)⟩
      · rw [if_neg h']
        exact ⟨fun _ => .inr (by omega), fun _ => by omega⟩
theorem idx_any {α : Type} (q : α → Bool) (l : List α) : decide (0 ≤ idx q l) = l.any q := by
  rw [Bool.eq_iff_iff, decide_eq_true_iff]
  exact idx_iff q l
theorem len3 {l : List Value} (h : l.length = 3) : ∃ a b c, l = [a, b, c] := by
  match l, h with
  | [a, b, c], _ => exact ⟨a, b, c, rfl⟩
/-- What is asked of a predicate: at what lies as kind d says, in every world in which all that lay in w lies unturned. -/
def Pred {α : Type} (P : Program) (g : Nat) (lb : Array Value) (d : Kd α) (q : α → Bool) (l : List α) (w : World) : Prop :=
  ∀ (W : World) (x : α) (cs : List Value), Below w.heap.size w W → x ∈ l → d.K W x cs → Calls P g (#[.agg cs.toArray] ++ lb) W fun e w' => e = .returned (.bool (q x)) ∧ Below W.heap.size W w'
theorem take_all {α : Type} {l : List α} {k : Nat} {q : α → Bool} (h : ∀ x ∈ l.take k, q x = false) {x : α} (hx : l[k]? = some x) (hq : q x = false) : ∀ y ∈ l.take (k + 1), q y = false := by
  obtain ⟨hk, rfl⟩ := List.getElem?_eq_some_iff.1 hx
  rw [List.take_succ_eq_append_getElem hk]
  intro y hy
  rcases List.mem_append.mp hy with hy | hy
  · exact h y hy
  · rw [List.mem_singleton.mp hy]; exact hq
theorem hit_at {α : Type} {l : List α} {k : Nat} {q : α → Bool} (h : ∀ x ∈ l.take k, q x = false) {x : α} (hx : l[k]? = some x) (hq : q x = true) : idx q l = (k : Int) := by
  obtain ⟨hk, rfl⟩ := List.getElem?_eq_some_iff.1 hx
  have e : l = l.take k ++ l[k] :: l.drop (k + 1) := by
    rw [← List.drop_eq_getElem_cons hk, List.take_append_drop]
  have hl : (l.take k).length = k := by simp; omega
  have : idx q (l.take k ++ l[k] :: l.drop (k + 1)) = (k : Int) := by
    rw [idx_append q _ _ h]
    simp only [idx, hq, if_true, hl]
    omega
  rw [← e] at this
  exact this
/-- An element's cells, of whatever size. -/
theorem cells_at {α : Type} {d : Kd α} {w : World} {A : Option Addr} {l : List α} (h : d.C w A l.length l) {k : Nat} {x : α} (hx : l[k]? = some x) :
    ∃ ad c, A = some ad ∧ c.length = d.sz ∧ d.K w x c ∧ ∀ i u, c[i]? = some u → w.cell? (ad.add (k * d.sz + i)) = some u := by
  obtain ⟨hk, _⟩ := List.getElem?_eq_some_iff.1 hx
  obtain ⟨ad, rfl, hc⟩ := h.2.2 (by omega)
  obtain ⟨c, h1, h2, h3⟩ := hc k x hx
  exact ⟨ad, c, rfl, h1, h2, h3⟩

set_option maxRecDepth 100000 in
set_option maxHeartbeats 2000000 in
theorem index_out {α : Type} (d : Kd α) (hk : d.sz = 3) (q : α → Bool) (g : Nat) (lb : Array Value) (eg : ∀ args w, (callFunc g args).run Try.prog w = .ok (.enter g args) w) (A : Option Addr) (c : Nat) (l : List α) (w : World)
    (hr : d.C w A l.length l) (hp : Pred Try.prog g lb d q l w) :
    Calls Try.prog 53 #[.slice A l.length c, .func (.func g) #[] lb] w fun e w' => e = .returned (.int .i64 (idx q l)) ∧ Below w.heap.size w w' := by
  have hmax : l.length ≤ 9223372036854775807 := hr.2.1
  have HR := Aside0.mk hr
  have HP := Aside0.mk hp
  clear hr hp
  go_enter Try.func53, Try.ntmps53
  go_wp2
  go_loopg [5, 8] l.length (fun gg _ s8 wr => ∃ kk : Nat, kk ≤ l.length ∧ l.length - kk ≤ gg ∧ s8 = .int .i64 kk ∧ Aside0 (Below w.heap.size w wr) ∧ Aside0 (∀ x ∈ l.take kk, q x = false))
  case atStart => exact ⟨0, Nat.zero_le _, by omega, rfl, ⟨Below.refl _ w⟩, ⟨fun x hx => by simp at hx⟩⟩
  case round =>
    obtain ⟨kk, hkk, hg, rfl, BW, NO⟩ := hrel
    by_cases hlt : kk < l.length
    · have hltz : (kk : Int) < (l.length : Int) := by omega
      obtain ⟨x, hx⟩ : ∃ x, l[kk]? = some x := ⟨_, List.getElem?_eq_getElem hlt⟩
      obtain ⟨ad, cs, rfl, hcl, hK, hcell⟩ := cells_at (Kd.C_below HR.out BW.out) hx
      have hcall := HP.out wr x cs BW.out (List.mem_of_getElem? hx) hK
      have HX := Aside0.mk hx
      clear hx
      rw [hk] at hcl
      obtain ⟨v0, v1, v2, rfl⟩ := len3 hcl
      have c0 : wr.cell? (ad.add (kk * 3)) = some v0 := by have := hcell 0 v0 rfl; rw [hk] at this; simpa using this
      have c1 : wr.cell? ⟨(ad.add (kk * 3)).block, (ad.add (kk * 3)).off + 1, none⟩ = some v1 := by have := hcell 1 v1 rfl; rw [hk] at this; rwa [add_field _ _ 1 (by omega)] at this
      have c2 : wr.cell? ⟨(ad.add (kk * 3)).block, (ad.add (kk * 3)).off + 2, none⟩ = some v2 := by have := hcell 2 v2 rfl; rw [hk] at this; rwa [add_field _ _ 2 (by omega)] at this
      clear hcell hK
      have HHK := Aside0.mk hk
      clear hk
      cases hq : q x with
      | true =>
        rw [hq] at hcall
        have HQ := Aside0.mk hq
        clear hq
        go_wp2_with (go_at_fn g; refine hcall.mono ?_; rintro e w' ⟨rfl, hb'⟩)
        go_ret
        refine ⟨?_, below_step BW.out hb'⟩
        rw [hit_at NO.out HX.out HQ.out]
        rfl
      | false =>
        rw [hq] at hcall
        have HQ := Aside0.mk hq
        clear hq
        go_wp2_with (go_at_fn g; refine hcall.mono ?_; rintro e w' ⟨rfl, hb'⟩)
        go_roundg (l.length - (kk + 1))
        case measure => omega
        case rel => exact ⟨kk + 1, by omega, by omega, by go_num, ⟨below_step BW.out hb'⟩, ⟨take_all NO.out HX.out HQ.out⟩⟩
    · have hltz : ¬ (kk : Int) < (l.length : Int) := by omega
      have hkl : kk = l.length := by omega
      have HN : Aside0 (idx q l = -1) := ⟨idx_none q l (fun x hx => NO.out x (by rw [hkl, List.take_length]; exact hx))⟩
      clear hkl
      go_wp2
      go_ret
      refine ⟨?_, BW.out⟩
      rw [HN.out]
      rfl

set_option maxHeartbeats 1000000 in
theorem contains_out {α : Type} (d : Kd α) (hk : d.sz = 3) (q : α → Bool) (g : Nat) (lb : Array Value) (eg : ∀ args w, (callFunc g args).run Try.prog w = .ok (.enter g args) w) (A : Option Addr) (c : Nat) (l : List α) (w : World)
    (hr : d.C w A l.length l) (hp : Pred Try.prog g lb d q l w) :
    Calls Try.prog 42 #[.slice A l.length c, .func (.func g) #[] lb] w fun e w' => e = .returned (.bool (l.any q)) ∧ Below w.heap.size w w' := by
  have HX := Aside0.mk (idx_any q l)
  have HK := Aside0.mk hk
  clear hk
  go_enter Try.func42, Try.ntmps42
  go_wp2_with (go_at_call 53; refine (index_out d HK.out q g lb eg A c l w hr hp).mono ?_; rintro e w' ⟨rfl, hb'⟩)
  go_ret
  refine ⟨?_, hb'⟩
  rw [← HX.out]
  rfl
/-- What is asked of a predicate on numbers. -/
def PredI (P : Program) (g : Nat) (lb : Array Value) (q : Int → Bool) (l : List Int) (w : World) : Prop :=
  ∀ (W : World) (x : Int), Below w.heap.size w W → x ∈ l → Calls P g (#[.int .i64 x] ++ lb) W fun e w' => e = .returned (.bool (q x)) ∧ Below W.heap.size W w'
set_option maxRecDepth 100000 in
set_option maxHeartbeats 2000000 in
theorem index_int (q : Int → Bool) (g : Nat) (lb : Array Value) (eg : ∀ args w, (callFunc g args).run Try.prog w = .ok (.enter g args) w) (A : Option Addr) (c : Nat) (l : List Int) (w : World)
    (hr : Kd.C (Kd.int .i64) w A l.length l) (hp : PredI Try.prog g lb q l w) :
    Calls Try.prog 45 #[.slice A l.length c, .func (.func g) #[] lb] w fun e w' => e = .returned (.int .i64 (idx q l)) ∧ Below w.heap.size w w' := by
  have hmax : l.length ≤ 9223372036854775807 := hr.2.1
  have HR := Aside0.mk hr
  have HP := Aside0.mk hp
  clear hr hp
  go_enter Try.func45, Try.ntmps45
  go_wp2
  go_loopg [5, 8] l.length (fun gg _ s8 wr => ∃ kk : Nat, kk ≤ l.length ∧ l.length - kk ≤ gg ∧ s8 = .int .i64 kk ∧ Aside0 (Below w.heap.size w wr) ∧ Aside0 (∀ x ∈ l.take kk, q x = false))
  case atStart => exact ⟨0, Nat.zero_le _, by omega, rfl, ⟨Below.refl _ w⟩, ⟨fun x hx => by simp at hx⟩⟩
  case round =>
    obtain ⟨kk, hkk, hg, rfl, BW, NO⟩ := hrel
    by_cases hlt : kk < l.length
    · have hltz : (kk : Int) < (l.length : Int) := by omega
      obtain ⟨x, hx⟩ : ∃ x, l[kk]? = some x := ⟨_, List.getElem?_eq_getElem hlt⟩
      obtain ⟨ad, cs, rfl, hcl, hK, hcell⟩ := cells_at (Kd.C_below HR.out BW.out) hx
      have hcall := HP.out wr x BW.out (List.mem_of_getElem? hx)
      obtain rfl := hK
      have HX := Aside0.mk hx
      clear hx
      have c0 : wr.cell? (ad.add kk) = some (.int .i64 x) := by
        have h0 : wr.cell? (ad.add (kk * 1 + 0)) = some (.int .i64 x) := hcell 0 _ rfl
        simpa using h0
      clear hcell hcl
      cases hq : q x with
      | true =>
        rw [hq] at hcall
        have HQ := Aside0.mk hq
        clear hq
        go_wp2_with (go_at_fn g; refine hcall.mono ?_; rintro e w' ⟨rfl, hb'⟩)
        go_ret
        refine ⟨?_, below_step BW.out hb'⟩
        rw [hit_at NO.out HX.out HQ.out]
        rfl
      | false =>
        rw [hq] at hcall
        have HQ := Aside0.mk hq
        clear hq
        go_wp2_with (go_at_fn g; refine hcall.mono ?_; rintro e w' ⟨rfl, hb'⟩)
        go_roundg (l.length - (kk + 1))
        case measure => omega
        case rel => exact ⟨kk + 1, by omega, by omega, by go_num, ⟨below_step BW.out hb'⟩, ⟨take_all NO.out HX.out HQ.out⟩⟩
    · have hltz : ¬ (kk : Int) < (l.length : Int) := by omega
      have hkl : kk = l.length := by omega
      have HN : Aside0 (idx q l = -1) := ⟨idx_none q l (fun x hx => NO.out x (by rw [hkl, List.take_length]; exact hx))⟩
      clear hkl
      go_wp2
      go_ret
      refine ⟨?_, BW.out⟩
      rw [HN.out]
      rfl

set_option maxHeartbeats 1000000 in
theorem contains_int (q : Int → Bool) (g : Nat) (lb : Array Value) (eg : ∀ args w, (callFunc g args).run Try.prog w = .ok (.enter g args) w) (A : Option Addr) (c : Nat) (l : List Int) (w : World)
    (hr : Kd.C (Kd.int .i64) w A l.length l) (hp : PredI Try.prog g lb q l w) :
    Calls Try.prog 29 #[.slice A l.length c, .func (.func g) #[] lb] w fun e w' => e = .returned (.bool (l.any q)) ∧ Below w.heap.size w w' := by
  have HX := Aside0.mk (idx_any q l)
  go_enter Try.func29, Try.ntmps29
  go_wp2_with (go_at_call 45; refine (index_int q g lb eg A c l w hr hp).mono ?_; rintro e w' ⟨rfl, hb'⟩)
  go_ret
  refine ⟨?_, hb'⟩
  rw [← HX.out]
  rfl
end Go.Proofs.YtdlagficilbbbaaI
