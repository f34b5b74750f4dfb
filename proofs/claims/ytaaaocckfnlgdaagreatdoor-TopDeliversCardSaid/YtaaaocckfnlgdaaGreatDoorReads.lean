/- From an argument that can be read as data to the print's own words: what a reading says of its cells, kind by kind (Kd.K), and that its numbers are of their kinds. -/
import Derived.WalkKit
import Derived.ProofKit
import Derived.ChangeOld
import Derived.Deep.Slices
import Derived.Test.YtaaaocckfnlgdaaGreatDoorWWords
namespace Go.Proofs.YtaaaocckfnlgdaaGreatDoorR
open Go.Proofs.YtaaaocckfnlgdaaGreatDoorW.PrintWords Go.WideShapes
set_option linter.unusedVariables false

/-- Whatever is read at type t lies as kind d says, and is ok. -/
def Reads {α : Type} (P : Program) (t : TypeId) (d : Kd α) (ok : α → Prop) : Prop :=
  ∀ (H : Type) (enc : TypeId × Value → H) (w : World) (fuel : Nat) (cs : List Value) (x : DataW H × List MemPlace),
    DataW.trod enc P w 0 (fun _ => true) true fuel t cs = some x → ∃ y : α, d.K w y cs ∧ ok y

theorem reads_int {P : Program} {t : TypeId} {k : IntKind} (ht : P.underlying t = some (.int k)) : Reads P t (Kd.int k) (fun n => (Lit.int k n).wf = true) := by
  intro H enc w fuel cs x h
  obtain ⟨n, hc, _, hw⟩ := DataW.trod_int ht h
  exact ⟨n, hc, hw⟩
theorem reads_bool {P : Program} {t : TypeId} (ht : P.underlying t = some .bool) : Reads P t Kd.bool (fun _ => True) := by
  intro H enc w fuel cs x h
  obtain ⟨b, hc, _⟩ := DataW.trod_bool ht h
  exact ⟨b, hc, trivial⟩
def OkAll {α : Type} (ok : α → Prop) (xs : List α) : Prop := xs.length ≤ maxLen ∧ ∀ x ∈ xs, ok x

theorem choose_list {α : Type} {p : Nat → α → Prop} : ∀ n : Nat, (∀ i, i < n → ∃ x, p i x) → ∃ xs : List α, xs.length = n ∧ ∀ i x, xs[i]? = some x → p i x := by
  intro n
  induction n with
  | zero => exact fun _ => ⟨[], rfl, fun i x h => by simp at h⟩
  | succ n ih =>
    intro h
    obtain ⟨xs, hl, hx⟩ := ih (fun i hi => h i (by omega))
    obtain ⟨z, hz⟩ := h n (by omega)
    refine ⟨xs ++ [z], by simp [hl], fun i x hi => ?_⟩
    by_cases hin : i < n
    · rw [List.getElem?_append_left (by omega)] at hi
      exact hx i x hi
    · rw [List.getElem?_append_right (by omega)] at hi
      have h0 : i - xs.length = 0 := by
        rcases Nat.eq_zero_or_pos (i - xs.length) with h0 | h0
        · exact h0
        · rw [List.getElem?_eq_none (by simp; omega)] at hi
          cases hi
      rw [h0] at hi
      injection hi with hi
      subst hi
      obtain rfl : i = n := by omega
      exact hz

theorem reads_slice {α : Type} {P : Program} {t e : TypeId} {d : Kd α} {ok : α → Prop} (ht : P.underlying t = some (.slice e)) (hs : P.cellsOf e = d.sz) (he : Reads P e d ok) :
    Reads P t (Kd.slice e d) (OkAll ok) := by
  intro H enc w fuel cs x h
  rcases Go.Deep.open_slice ht h with ⟨rfl, _⟩ | ⟨a, len, cap, m, n, D, Pl, rfl, hb, hl, hm, hmm, _, hx⟩
  · exact ⟨[], ⟨none, 0, rfl, Nat.le_refl _, rfl, Nat.zero_le _, fun hp => absurd hp (Nat.lt_irrefl _)⟩, Nat.zero_le _, fun x hx => by cases hx⟩
  · have hlm : len ≤ m := by rw [hmm]; simpa using hl
    obtain ⟨ys, hyl, hy⟩ := choose_list (p := fun i (y : α) => (∃ c, c.length = d.sz ∧ d.K w y c ∧ ∀ j u, c[j]? = some u → w.cell? (a.add (i * d.sz + j)) = some u) ∧ ok y) len (fun i hi => by
      obtain ⟨cs', h1, h2⟩ := hx i (by omega)
      obtain ⟨y, hk, hok⟩ := he H enc w n cs' _ h2
      obtain ⟨_, hlen, hat⟩ := World.cells?_some h1
      refine ⟨y, ⟨cs', by omega, hk, fun j u hu => ?_⟩, hok⟩
      have hj : j < cs'.length := (List.getElem?_eq_some_iff.1 hu).1
      have := hat j (by omega)
      rw [Go.Deep.add_add, hs] at this
      rw [this]
      exact hu)
    have hml : len ≤ maxLen := Nat.le_trans hl hm
    refine ⟨ys, ⟨some a, cap, by rw [hyl], by omega, rfl, by unfold maxLen at hml; omega, fun _ => ⟨a, rfl, fun j p hj => (hy j p hj).1⟩⟩, by omega, fun x hx => ?_⟩
    obtain ⟨i, hi, rfl⟩ := List.mem_iff_getElem.1 hx
    exact (hy i _ (List.getElem?_eq_getElem hi)).2

/-- The last part of a struct. -/
theorem split_last {cs : List Value} {n s : Nat} (h : cs.length = n + s) : (cs.drop n).take s = cs.drop n := List.take_of_length_le (by rw [List.length_drop]; omega)
theorem split_at (cs : List Value) (n s : Nat) : cs.drop n = (cs.drop n).take s ++ cs.drop (n + s) := by
  rw [← List.drop_drop, List.take_append_drop]
theorem some_of {α : Type} {xs : List α} {n i : Nat} (h : xs.length = n) (hi : i < n) : ∃ z, xs[i]? = some z := ⟨_, List.getElem?_eq_getElem (by omega)⟩

/-- An argument that is a slice. -/
theorem open_slice_arg {α : Type} {P : Program} {t e : TypeId} {d : Kd α} {ok : α → Prop} (h : Reads P t (Kd.slice e d) (OkAll ok)) {H : Type} {enc : TypeId × Value → H} {w : World} {v : Value} {x : DataW H} {p : List MemPlace}
    {a0 : Option Addr} {len cap : Nat} (hv : v = .slice a0 len cap) (hr : DataW.Trod enc P w 0 (fun _ => true) true t v x p) :
    ∃ (A : Option Addr) (c : Nat) (l : List α), v = .slice A l.length c ∧ d.C w A l.length l ∧ l.length ≤ c ∧ OkAll ok l := by
  obtain ⟨fuel, hf⟩ := hr
  obtain ⟨l, ⟨A, c, hc, hl, hC⟩, hok⟩ := h H enc w fuel _ _ hf
  subst hv
  simp only [Value.cells] at hc
  injection hc with hc
  exact ⟨A, c, l, hc, hC, hl, hok⟩
/-- An argument that is a struct. -/
theorem open_struct_arg {α : Type} {P : Program} {t : TypeId} {d : Kd α} {ok : α → Prop} {fs : Array Field} (h : Reads P t d ok) {H : Type} {enc : TypeId × Value → H} {w : World} {v : Value} {x : DataW H} {p : List MemPlace} {r : Reach} {b0 : Nat}
    (ht : P.underlying t = some (.struct fs)) (hv : Value.okWide P w r b0 t v) (hr : DataW.Trod enc P w 0 (fun _ => true) true t v x p) :
    ∃ (cs : List Value) (y : α), v = .agg cs.toArray ∧ d.K w y cs ∧ ok y := by
  obtain ⟨cs, rfl, _⟩ := okWide_struct ht hv
  obtain ⟨fuel, hf⟩ := hr
  obtain ⟨y, hk, hok⟩ := h H enc w fuel _ _ hf
  exact ⟨cs.toList, y, by simp, by simpa [Value.cells] using hk, hok⟩

/-! ### numbers of a kind -/
theorem wf_u8 {x : Int} (h : (Lit.int .u8 x).wf = true) : 0 ≤ x ∧ x ≤ 255 := by
  simp only [Lit.wf, IntKind.min, IntKind.max, IntKind.signed, IntKind.bits] at h; simp at h; omega
theorem wf_u16 {x : Int} (h : (Lit.int .u16 x).wf = true) : 0 ≤ x ∧ x ≤ 65535 := by
  simp only [Lit.wf, IntKind.min, IntKind.max, IntKind.signed, IntKind.bits] at h; simp at h; omega
theorem wf_u32 {x : Int} (h : (Lit.int .u32 x).wf = true) : 0 ≤ x ∧ x ≤ 4294967295 := by
  simp only [Lit.wf, IntKind.min, IntKind.max, IntKind.signed, IntKind.bits] at h; simp at h; omega
theorem wf_i64 {x : Int} (h : (Lit.int .i64 x).wf = true) : -9223372036854775808 ≤ x ∧ x ≤ 9223372036854775807 := by
  simp only [Lit.wf, IntKind.min, IntKind.max, IntKind.signed, IntKind.bits] at h; simp at h; omega
theorem wrap64_id {x : Int} (h0 : -9223372036854775808 ≤ x) (h1 : x ≤ 9223372036854775807) : Go.RowKit.wrap64 x = x := by
  unfold Go.RowKit.wrap64; omega
theorem tmod_nonneg {a b : Int} (h : 0 ≤ a) : Int.tmod a b = a % b := Int.tmod_eq_emod_of_nonneg h
theorem rd_mem {xs : List Int} {i : Int} (h0 : 0 ≤ i) (h1 : i < (xs.length : Int)) : rd xs i ∈ xs := by
  unfold rd
  have h : i.toNat < xs.length := by omega
  rw [List.getD_eq_getElem?_getD, List.getElem?_eq_getElem h]
  exact List.getElem_mem h
end Go.Proofs.YtaaaocckfnlgdaaGreatDoorR
