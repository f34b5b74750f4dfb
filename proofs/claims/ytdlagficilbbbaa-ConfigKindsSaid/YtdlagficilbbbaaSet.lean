/- A map from pairs of ints to bools that a call makes, reads and writes: it is what a set of pairs is, in plain words. -/
import Derived.Test.YtdlagficilbbbaaProg
import Derived.Test.YtdlagficilbbbaaWWords
import Derived.Test.YtdlagficilbbbaaReads
import Derived.Maps.OwnIn
import Derived.Maps.Views
import Derived.DeepKeys4
import Derived.WalkKit
namespace Go.Proofs.YtdlagficilbbbaaM
open Go Go.RowKit Go.Maps Go.Proofs.YtdlagficilbbbaaW.PrintWords
set_option linter.unusedVariables false
set_option linter.unusedSimpArgs false

theorem laidOut : laidOutB Try.prog = true := by kernel_rfl
theorem rowOn : (82 : TypeId) < Try.prog.types.size := of_decide_eq_true (by kernel_rfl)
theorem wideOn : (match Try.prog.underlying 82 with | some (.array _ _) | some (.struct _) => true | _ => false) = true := by kernel_rfl
theorem lawOn : Keyed Try.prog 82 := Keyed.of_law (deep_law_laid laidOut (m := 3) (by omega) rowOn (by kernel_rfl) wideOn)
theorem undMap : Try.prog.underlying 80 = some (.map 82 4) := by kernel_rfl
theorem undBool : Try.prog.underlying 4 = some .bool := by kernel_rfl
theorem zeroBool (w : World) : (zeroValue 4).run Try.prog w = .ok (.bool false) w := by kernel_rfl

/-- What a pair reads as. -/
def keyl (s c : Int) : Lit := .string (keyBytes [.int .i64 s, .int .i64 c])
theorem keyOn {s c : Int} (hs : (Lit.int .i64 s).wf = true) (hc : (Lit.int .i64 c).wf = true) : keyOf Try.prog 82 (.agg #[.int .i64 s, .int .i64 c]) = some (keyl s c) := by
  have hu : Try.prog.underlying 3 = some (.int .i64) := by kernel_rfl
  have hkt : Try.prog.keyType 82 = true := by kernel_rfl
  have hc2 : Try.prog.cellsOf 82 = 2 := by kernel_rfl
  have hc1 : Try.prog.cellsOf 3 = 1 := by kernel_rfl
  obtain ⟨fs, hf, h1, h2⟩ : ∃ fs : Array Field, Try.prog.underlying 82 = some (.struct fs) ∧ fs.all (·.name != "_") = true ∧ fs.toList.map (fun f => (f.type, f.offset)) = [(3, 0), (3, 1)] := ⟨_, rfl, by kernel_rfl, by kernel_rfl⟩
  obtain ⟨m, hm⟩ : ∃ m, Try.prog.types.size + 1 = m + 2 := ⟨Try.prog.types.size - 1, by have h := rowOn; have : 0 < Try.prog.types.size := Nat.lt_of_le_of_lt (Nat.zero_le _) h; omega⟩
  unfold keyOf keyl
  simp only [hf]
  rw [if_pos (by simp [hkt, Value.formed, hf, hc2]), hm]
  obtain ⟨l⟩ := fs
  match l, h2 with
  | [f0, f1], h2 =>
    simp only [List.map_cons, List.map_nil, List.cons.injEq, Prod.mk.injEq, and_true] at h2
    obtain ⟨⟨a0, b0⟩, a1, b1⟩ := h2
    unfold Program.keyLits
    simp only [hf, Value.cells]
    rw [if_pos ⟨by simp [hc2], h1⟩]
    simp [a0, b0, a1, b1, hc1, Program.keyLits, hu, hs, hc]
  | [], h2 => simp at h2
  | [_], h2 => simp at h2
  | _ :: _ :: _ :: _, h2 => simp at h2
theorem keyl_inj {s c s' c' : Int} (hs : (Lit.int .i64 s).wf = true) (hc : (Lit.int .i64 c).wf = true) (hs' : (Lit.int .i64 s').wf = true) (hc' : (Lit.int .i64 c').wf = true) (h : keyl s c = keyl s' c') : s = s' ∧ c = c' := by
  have := lawOn.inj (keyOn hs hc) (h ▸ keyOn hs' hc')
  simpa using this
theorem boolElem {v : Value} {x : DataW Unit × List MemPlace} (h : plainElem Try.prog 4 v = some x) : ∃ b, v = .bool b ∧ x = (.lit (.bool b), []) := by
  unfold plainElem at h
  rw [undBool] at h
  cases v <;> simp at h
  exact ⟨_, rfl, h.symm⟩

/-- BLOCK b IS A MAP OF AT MOST n ENTRIES THAT SAYS q OF EVERY PAIR. -/
def SetIs (w : World) (b n : Nat) (q : Int → Int → Bool) : Prop :=
  ∃ D : DataW Unit, w.ownsMap Try.prog 82 (plainElem Try.prog 4) b n D ∧ IsMap D ∧
    ∀ s c, (Lit.int .i64 s).wf = true → (Lit.int .i64 c).wf = true → D.atKey (keyl s c) (.lit (.bool false)) = .lit (.bool (q s c))
theorem set_made (w : World) : SetIs (w.alloc (.map #[] 0)) w.heap.size 0 (fun _ _ => false) :=
  ⟨.map [], World.ownsMap_made w _ _ _, ⟨_, rfl⟩, fun _ _ _ _ => rfl⟩
theorem SetIs.lt {w : World} {b n : Nat} {q : Int → Int → Bool} (h : SetIs w b n q) : b < w.heap.size := by
  obtain ⟨D, h1, _, _⟩ := h
  exact h1.lt
theorem SetIs.alloc {w : World} {b n : Nat} {q : Int → Int → Bool} (h : SetIs w b n q) (o : Obj) : SetIs (w.alloc o) b n q := by
  obtain ⟨D, h1, h2, h3⟩ := h
  exact ⟨D, h1.alloc o, h2, h3⟩
theorem SetIs.kept {w w' : World} {b n : Nat} {q : Int → Int → Bool} (h : SetIs w b n q) (hg : w.grownBy w' none) : SetIs w' b n q := by
  obtain ⟨D, h1, h2, h3⟩ := h
  exact ⟨D, h1.kept hg (by simp), h2, h3⟩
theorem SetIs.below {w w' : World} {b n : Nat} {q : Int → Int → Bool} (h : SetIs w b n q) (hg : Below w.heap.size w w') : SetIs w' b n q := by
  have hlt := h.lt
  obtain ⟨D, ⟨es, clock, hb, F, hs, hD⟩, h2, h3⟩ := h
  exact ⟨D, ⟨es, clock, (hg.block b hlt).trans hb, F, hs, hD⟩, h2, h3⟩
theorem SetIs.look {w : World} {b n : Nat} {q : Int → Int → Bool} (h : SetIs w b n q) {s c : Int} (hs : (Lit.int .i64 s).wf = true) (hc : (Lit.int .i64 c).wf = true) :
    (Instr.lookup 80 (.map (some b)) (.agg #[.int .i64 s, .int .i64 c]) false).run Try.prog w = .ok (.bool (q s c)) w := by
  obtain ⟨D, h1, _, h3⟩ := h
  obtain ⟨v, ps, hrun, hv⟩ := h1.lookup lawOn undMap (zeroBool w) (plainElem_bool undBool false) (keyOn hs hc)
  obtain ⟨x, rfl, hx⟩ := boolElem hv
  rw [h3 s c hs hc] at hx
  have : q s c = x := by
    simp only [Prod.mk.injEq, DataW.lit.injEq, Lit.bool.injEq] at hx
    exact hx.1
  rw [this]
  exact hrun
theorem SetIs.store {w : World} {b n : Nat} {q : Int → Int → Bool} (h : SetIs w b n q) (hn : n < maxLen) {s c : Int} (hs : (Lit.int .i64 s).wf = true) (hc : (Lit.int .i64 c).wf = true) :
    ∃ w', (Instr.mapUpdate 80 (.map (some b)) (.agg #[.int .i64 s, .int .i64 c]) (.bool true)).run Try.prog w = .ok () w' ∧ SetIs w' b (n + 1) (fun s' c' => (s == s' && c == c') || q s' c') ∧ w.grownBy w' (some b) := by
  obtain ⟨D, h1, h2, h3⟩ := h
  obtain ⟨w', hrun, ho, hg⟩ := h1.update lawOn undMap hn (keyOn hs hc) (plainElem_bool undBool true)
  refine ⟨w', hrun, ⟨_, ho, ?_, ?_⟩, hg⟩
  · obtain ⟨es, rfl⟩ := h2
    exact ⟨_, rfl⟩
  · intro s' c' hs' hc'
    by_cases he : keyl s' c' = keyl s c
    · obtain ⟨rfl, rfl⟩ := keyl_inj hs' hc' hs hc he
      rw [atKey_put_same h2 (lawOn.key (keyOn hs hc))]
      simp
    · rw [atKey_put_other he, h3 s' c' hs' hc']
      have : (s == s' && c == c') = false := by
        cases hb : (s == s' && c == c') with
        | false => rfl
        | true =>
          obtain ⟨h4, h5⟩ := Bool.and_eq_true_iff.mp hb
          rw [beq_iff_eq.mp h4, beq_iff_eq.mp h5] at he
          exact absurd rfl he
      simp [this]

/-- 'm[k]' and 'm[k] = true' where they stand in a walk. -/
theorem wpList_look (w : World) {ops : Array Oper} {rest : List Oper} {o : Oper} {a : Act} {Q : Exit → Act → World → Prop} (hg : o.guard = none) (m x : Operand) (hop : o.op = Op.lookup 80 m x false)
    (b n : Nat) (q : Int → Int → Bool) (s c : Int) (hm : a.eval m = .map (some b)) (hx : a.eval x = .agg #[.int .i64 s, .int .i64 c]) (hset : SetIs w b n q) (hs : (Lit.int .i64 s).wf = true) (hc : (Lit.int .i64 c).wf = true)
    (hK : wpList Try.prog ops Q rest (a.put o.dst (.bool (q s c))) w) : wpList Try.prog ops Q (o :: rest) a w := by
  refine wpList_plain hg fun K' hK' => ?_
  have hrun := hset.look hs hc
  unfold Oper.wp
  simp [execOp, hop, hm, hx, hrun, Result.andThen]
  exact hK' _ _ hK
theorem wpList_store (w : World) {ops : Array Oper} {rest : List Oper} {o : Oper} {a : Act} {Q : Exit → Act → World → Prop} (hg : o.guard = none) (m x v : Operand) (hop : o.op = Op.mapUpdate 80 m x v)
    (b n : Nat) (q : Int → Int → Bool) (s c : Int) (hm : a.eval m = .map (some b)) (hx : a.eval x = .agg #[.int .i64 s, .int .i64 c]) (hv : a.eval v = .bool true) (hset : SetIs w b n q) (hn : n < maxLen) (hs : (Lit.int .i64 s).wf = true) (hc : (Lit.int .i64 c).wf = true)
    (hK : ∀ w', SetIs w' b (n + 1) (fun s' c' => (s == s' && c == c') || q s' c') → w.grownBy w' (some b) → wpList Try.prog ops Q rest (a.put o.dst undef) w') : wpList Try.prog ops Q (o :: rest) a w := by
  refine wpList_plain hg fun K' hK' => ?_
  obtain ⟨w', hrun, h1, h2⟩ := hset.store hn hs hc
  unfold Oper.wp
  simp [execOp, hop, hm, hx, hv, hrun, Result.andThen]
  exact hK' _ _ (hK w' h1 h2)
/-- A store into a block that is the call's own turns nothing that was before the call. -/
theorem below_grown {W w w' : World} {b : Nat} (h : Below W.heap.size W w) (hg : w.grownBy w' (some b)) (hb : W.heap.size ≤ b) : Below W.heap.size W w' :=
  Below.grown h hg h.size (by intro x hx; cases hx; exact hb)
end Go.Proofs.YtdlagficilbbbaaM
