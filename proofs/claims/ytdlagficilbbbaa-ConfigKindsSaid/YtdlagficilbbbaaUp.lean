/- tree.up, its iterator, and the two that range over it: IsA, Above (slices.Collect, slices.AppendSeq): what they hand back, in plain lists. -/
import Derived.Test.YtdlagficilbbbaaProg
import Derived.Test.YtdlagficilbbbaaWWords
import Derived.Test.YtdlagficilbbbaaUpLaw
import Derived.RangeFuncBox
namespace Go.Proofs.YtdlagficilbbbaaU
open Go Go.RowKit Go.Shelf Go.Proofs.YtdlagficilbbbaaW.PrintWords
set_option linter.unusedVariables false
set_option linter.unusedSimpArgs false
attribute [local go_sem] Oper.semAt_some

/-! ### plain -/
/-- A tree of classes: 1 to 16 of them, each one's parent -1 or a class of a smaller number. -/
def Tree (ps : List Int) : Prop := 1 ≤ ps.length ∧ ps.length ≤ 16 ∧ ∀ i : Nat, i < ps.length → -1 ≤ ps.getD i 0 ∧ ps.getD i 0 < (i : Int)
instance (ps : List Int) : Decidable (Tree ps) := by unfold Tree; infer_instance
def treeB (ps : List Int) : Bool := decide (Tree ps)
/-- From a on upwards, n rounds at most. -/
def chain (ps : List Int) : Nat → Int → List Int
  | 0, _ => []
  | n + 1, a => if 0 ≤ a then a :: chain ps n (rd ps a) else []
/-- What is above a. -/
def upL (ps : List Int) (a : Int) : List Int := if a < (ps.length : Int) ∧ treeB ps = true then chain ps (a.toNat + 1) a else []

theorem tree_rd {ps : List Int} (h : Tree ps) {a : Int} (h0 : 0 ≤ a) (h1 : a < (ps.length : Int)) : -1 ≤ rd ps a ∧ rd ps a < a := by
  have := h.2.2 a.toNat (by omega)
  unfold rd
  omega
theorem chain_more {ps : List Int} (h : Tree ps) (n : Nat) : ∀ (m : Nat) (a : Int), a < (ps.length : Int) → a < (n : Int) → a < (m : Int) → chain ps n a = chain ps m a := by
  induction n with
  | zero =>
    intro m a hl hn hm
    cases m with
    | zero => rfl
    | succ m => simp only [chain]; rw [if_neg (by omega)]
  | succ n ih =>
    intro m a hl hn hm
    cases m with
    | zero => simp only [chain]; rw [if_neg (by omega)]
    | succ m =>
      simp only [chain]
      by_cases h0 : 0 ≤ a
      · have := tree_rd h h0 hl
        rw [if_pos h0, if_pos h0, ih m _ (by omega) (by omega) (by omega)]
      · rw [if_neg h0, if_neg h0]
theorem chain_step {ps : List Int} (h : Tree ps) {a : Int} (h0 : 0 ≤ a) (hl : a < (ps.length : Int)) : chain ps (a.toNat + 1) a = a :: chain ps ((rd ps a).toNat + 1) (rd ps a) := by
  have := tree_rd h h0 hl
  rw [chain, if_pos h0, chain_more h _ ((rd ps a).toNat + 1) _ (by omega) (by omega) (by omega)]
theorem chain_end {ps : List Int} {n : Nat} {a : Int} (h : a < 0) : chain ps n a = [] := by
  cases n with
  | zero => rfl
  | succ n => simp only [chain]; rw [if_neg (by omega)]
theorem chain_length {ps : List Int} (n : Nat) : ∀ a, (chain ps n a).length ≤ n := by
  induction n with
  | zero => exact fun a => Nat.le_refl _
  | succ n ih =>
    intro a
    simp only [chain]
    split
    · have := ih (rd ps a); simp; omega
    · simp
theorem upL_length (ps : List Int) (a : Int) : (upL ps a).length ≤ 16 := by
  unfold upL
  split
  · rename_i h
    have hl := chain_length (ps := ps) (a.toNat + 1) a
    have ht : Tree ps := of_decide_eq_true h.2
    have := ht.2.1
    by_cases h0 : 0 ≤ a
    · omega
    · rw [chain_end (by omega)]; simp
  · simp

/-! ### the iterator -/
/-- How far the captured class is from the end: the loop's measure. -/
def leftAt (Ba : Nat) (w : World) : Nat := match w.cell? ⟨Ba, 0, none⟩ with
  | some (.int _ n) => (n + 1).toNat
  | _ => 0
theorem leftAt_eq {Ba : Nat} {w : World} {k : IntKind} {n : Int} (h : w.cell? ⟨Ba, 0, none⟩ = some (.int k n)) : leftAt Ba w = (n + 1).toNat := by simp [leftAt, h]
theorem grown_drewN (W : World) (q : Nat) (row : Option Nat) : W.grownBy (W.drewN q) row := grown_of_below (pw_below_drewN (Below.refl _ _) q) row
theorem grown_cell (W : World) (b : Nat) (v : Value) : W.grownBy (W.setCell ⟨b, 0, none⟩ v) (some b) :=
  ⟨rfl, rfl, rfl, (KeepsWalks.setCell W _ v).size, fun k _ hk => Below.heap_setCell _ _ _ k (fun e => hk (by rw [e]))⟩

theorem cell_far {W : World} {b k : Nat} {v x : Value} (h : W.cell? ⟨k, 0, none⟩ = some x) (hne : k ≠ b) : (W.setCell ⟨b, 0, none⟩ v).cell? ⟨k, 0, none⟩ = some x :=
  (World.cell?_of_block (Below.heap_setCell _ _ _ k hne)).trans h

set_option maxRecDepth 100000 in
set_option maxHeartbeats 2000000 in
theorem up1_in (F : Fence) (n : Nat) (h25 : F.fn 56) (h12 : F.fn 23) (hro : F.round = none) (hn : 2 ≤ n) (l Ba Bp n₀ : Nat) (A : Option Addr) (c : Nat) (ps : List Int) (a : Int) (J Jx : List Int → World → Prop)
    (w0 : World) (hr0 : Kd.C (Kd.int .i64) w0 A ps.length ps) (hlen : ps.length ≤ 9223372036854775807)
    (hck : ∀ m W, Kd.C (Kd.int .i64) W A ps.length ps → CallsIn F m Try.prog 23 #[.slice A ps.length c] W fun e w' => e = .returned (.int .i64 (if treeB ps = true then 0 else 50)) ∧ ∃ q, w' = W.drewN q)
    (hJ : AbidesAt Ba J)
    (hY : ∀ pre x W, J pre W → pre.length < (upL ps a).length → YieldAt F (n - 1) Try.prog l #[.int .i64 x] W fun e W' =>
      (e = .returned (.bool true) ∧ J (pre ++ [x]) W' ∧ Below n₀ W W') ∨ (e = .returned (.bool false) ∧ Jx (pre ++ [x]) W'))
    (W : World) (hB0 : Below w0.heap.size w0 W) (hBa0 : w0.heap.size ≤ Ba) (hBa1 : Ba < n₀) (hBp0 : w0.heap.size ≤ Bp) (hBp1 : Bp < n₀) (hne : Ba ≠ Bp) (hn0 : w0.heap.size ≤ n₀)
    (hBa : W.cell? ⟨Ba, 0, none⟩ = some (.int .i64 a)) (hfa : W.frozen? ⟨Ba, 0, none⟩ = false) (hBp : W.cell? ⟨Bp, 0, none⟩ = some (.slice A ps.length c)) (h0 : J [] W) :
    CallsIn F n Try.prog 56 #[.func (.yield l) #[] #[], .pointer (some ⟨Ba, 0, none⟩), .pointer (some ⟨Bp, 0, none⟩)] W fun e W' => (∃ v, e = .returned v) ∧
      ((∃ ys, ys = upL ps a ∧ J ys W') ∨ (∃ pre, pre <+: upL ps a ∧ Jx pre W')) := by
  have hn1 : 1 ≤ n := by omega
  by_cases hge : (ps.length : Int) ≤ a
  · have hu : upL ps a = [] := by unfold upL; rw [if_neg (by omega)]
    have hd : decide ((ps.length : Int) ≤ a) = true := decide_eq_true hge
    refine callsIn_of_wp Try.func56 rfl h25 ?_ hro
    simp only [Try.ntmps56, List.size_toArray, List.length_cons, List.length_nil, Nat.reduceAdd, Nat.reduceSub, Array.replicate_succ, Array.replicate_zero, List.push_toArray, List.append_toArray, List.nil_append, List.cons_append]
    gi_wp2
    refine bodyPost_ret (results_none rfl _ _ _) rfl ?_
    exact ⟨⟨_, rfl⟩, .inl ⟨[], hu.symm, h0⟩⟩
  · have hd : decide ((ps.length : Int) ≤ a) = false := decide_eq_false hge
    refine callsIn_of_wp Try.func56 rfl h25 ?_ hro
    simp only [Try.ntmps56, List.size_toArray, List.length_cons, List.length_nil, Nat.reduceAdd, Nat.reduceSub, Array.replicate_succ, Array.replicate_zero, List.push_toArray, List.append_toArray, List.nil_append, List.cons_append]
    have hrW : Kd.C (Kd.int .i64) W A ps.length ps := Kd.C_below hr0 hB0
    cases ht : treeB ps with
    | false =>
      have hu : upL ps a = [] := by unfold upL; rw [if_neg (by simp [ht])]
      have hck' := fun m W h => by have := hck m W h; rw [ht] at this; exact this
      clear hck
      have ht' := Aside0.mk ht
      clear ht
      gi_wp2_with (gi_at_call 23; refine (hck' _ _ hrW).mono ?_; rintro e w' ⟨rfl, q, rfl⟩)
      refine bodyPost_ret (results_none rfl _ _ _) rfl ?_
      exact ⟨⟨_, rfl⟩, .inl ⟨[], hu.symm, hJ _ _ _ h0 (grown_drewN W q _)⟩⟩
    | true =>
      have hT : Tree ps := of_decide_eq_true ht
      have hu : upL ps a = chain ps (a.toNat + 1) a := by unfold upL; rw [if_pos ⟨by omega, ht⟩]
      have hck' := fun m W h => by have := hck m W h; rw [ht] at this; exact this
      clear hck
      have ht' := Aside0.mk ht
      clear ht
      obtain ⟨ad, rfl, _⟩ := Kd.at_int hr0 0 (by omega) (by have := hT.1; omega)
      gi_wp2_with (gi_at_call 23; refine (hck' _ _ hrW).mono ?_; rintro e w' ⟨rfl, q, rfl⟩)
      gi_loopw [] (fun wr => ∃ (pre : List Int) (b : Int), upL ps a = pre ++ chain ps (b.toNat + 1) b ∧ b < (ps.length : Int) ∧ wr.cell? ⟨Ba, 0, none⟩ = some (.int .i64 b) ∧ wr.frozen? ⟨Ba, 0, none⟩ = false ∧ wr.cell? ⟨Bp, 0, none⟩ = some (.slice (some ad) ps.length c) ∧ Below w0.heap.size w0 wr ∧ J pre wr)
        (fun wr => leftAt Ba wr)
      case atStart =>
        exact ⟨[], a, hu, by omega, by simpa using hBa, by simpa using hfa, by simpa using hBp, pw_below_drewN hB0 q, hJ _ _ _ h0 (grown_drewN W q _)⟩
      case round =>
        obtain ⟨pre, b, hx, hbl, hba, hbf, hbp, hB, hJs⟩ := hrel
        by_cases hb0 : 0 ≤ b
        · have hstep := chain_step hT hb0 hbl
          have hr := tree_rd hT hb0 hbl
          have hdb : decide (0 ≤ b) = true := decide_eq_true hb0
          obtain ⟨fn, tmps, assign, body, hy, hR⟩ := hY pre b wr hJs (by rw [hx, hstep]; simp)
          have hxs : upL ps a = (pre ++ [b]) ++ chain ps ((rd ps b).toNat + 1) (rd ps b) := by rw [hx, hstep]; simp
          have Hx := Aside0.mk hx
          have Hs := Aside0.mk hstep
          have Hxs := Aside0.mk hxs
          have Hu := Aside0.mk hu
          clear hx hstep hxs hu
          gi_wp2
          refine hR.mono ?_
          rintro e W3 (⟨rfl, hJ3, hk3⟩ | ⟨rfl, hJx3⟩)
          · have hB3 : Below w0.heap.size w0 W3 := hB.trans (hk3.mono hn0)
            have hba3 : W3.cell? ⟨Ba, 0, none⟩ = some (.int .i64 b) := (hk3.cell (p := ⟨Ba, 0, none⟩) hBa1).trans hba
            have hbf3 : W3.frozen? ⟨Ba, 0, none⟩ = false := (hk3.frozen (p := ⟨Ba, 0, none⟩) hBa1).trans hbf
            have hbp3 : W3.cell? ⟨Bp, 0, none⟩ = some (.slice (some ad) ps.length c) := (hk3.cell (p := ⟨Bp, 0, none⟩) hBp1).trans hbp
            obtain ⟨ad', e', hcell⟩ := Kd.at_int (Kd.C_below hr0 hB3) b hb0 (by omega)
            cases e'
            have hlt0 : decide (b < 0) = false := decide_eq_false (by omega)
            have hlt1 : decide (b < (ps.length : Int)) = true := decide_eq_true hbl
            have HM := Aside0.mk (leftAt_eq hba)
            clear hba hbf hbp hB hJs hY
            gi_wp2
            go_roundw
            case rel => exact ⟨pre ++ [b], rd ps b, Hxs.out, by omega, by simpa using World.cell?_setCell_same' _ _ _ (by rw [hba3]; rfl), by simpa using hbf3, cell_far hbp3 (fun e => hne e.symm), hB3.setCell (p := ⟨Ba, 0, none⟩) hBa0 _, hJ _ _ _ hJ3 (grown_cell _ _ _)⟩
            case measure => rw [HM.out, leftAt_eq (World.cell?_setCell_same' _ _ _ (by rw [hba3]; rfl))]; omega
          · gi_wp2
            refine bodyPost_ret (results_none rfl _ _ _) rfl ?_
            exact ⟨⟨_, rfl⟩, .inr ⟨pre ++ [b], ⟨_, Hxs.out.symm⟩, hJx3⟩⟩
        · have hdb : decide (0 ≤ b) = false := decide_eq_false hb0
          have hxs : upL ps a = pre := by rw [hx, chain_end (by omega)]; simp
          have Hxs := Aside0.mk hxs
          clear hx hxs hu
          gi_wp2
          go_end0
          rw [Hxs.out]
          exact ⟨⟨_, rfl⟩, .inl hJs⟩

/-- tree.up: two boxes and the iterator over them. -/
theorem up_in (F : Fence) (n : Nat) (h23 : F.fn 46) (hro : F.round = none) (v : Value) (hv : ∃ A n c, v = .slice A n c) (a : Int) (w : World) :
    CallsIn F n Try.prog 46 #[v, .int .i64 a] w fun e w' => e = .returned (.func (.func 56) #[] #[.pointer (some ⟨w.heap.size + 1, 0, none⟩), .pointer (some ⟨w.heap.size, 0, none⟩)]) ∧
      w' = (w.alloc (.cells #[v] 22)).alloc (.cells #[.int .i64 a] 3) := by
  obtain ⟨A, m, c, rfl⟩ := hv
  refine callsIn_of_wp Try.func46 rfl h23 ?_ hro
  simp only [Try.ntmps46, List.size_toArray, List.length_cons, List.length_nil, Nat.reduceAdd, Nat.reduceSub, Array.replicate_succ, Array.replicate_zero, List.push_toArray, List.append_toArray, List.nil_append, List.cons_append]
  have hmf : ∀ (fn : Fn) (first cap : Array Value) (w : World), (Instr.makeFunc fn first cap).run Try.prog w = .ok (.func fn first cap) w := fun _ _ _ _ => rfl
  gi_wp2
  go_ret
  exact ⟨rfl, rfl⟩

theorem cell_of_box_u {W : World} {B : Nat} {v : Value} {t : TypeId} (h : W.heap[B]? = some (.cells #[v] t (0, 0))) : W.cell? ⟨B, 0, none⟩ = some v ∧ W.frozen? ⟨B, 0, none⟩ = false := by
  constructor <;> simp [World.cell?, World.frozen?, h]
theorem cell_new_u (W : World) (v : Value) (t : TypeId) : (W.alloc (.cells #[v] t)).cell? ⟨W.heap.size, 0, none⟩ = some v ∧ (W.alloc (.cells #[v] t)).frozen? ⟨W.heap.size, 0, none⟩ = false :=
  cell_of_box_u (World.alloc_heap_new W _)
theorem cell_alloc_u {W : World} {a : Addr} {v : Value} (o : Obj) (h : W.cell? a = some v) : (W.alloc o).cell? a = some v := cell_kept h (World.grownBy_alloc W o none) (fun r e => by cases e)
theorem frozen_alloc_u {W : World} {a : Addr} {v : Value} (o : Obj) (h : W.cell? a = some v) (hf : W.frozen? a = false) : (W.alloc o).frozen? a = false := (frozen_kept h (World.grownBy_alloc W o none) (fun r e => by cases e)).trans hf
/-- A cell abides the turn of a block that isn't its own, or is no cells. -/
theorem cell_ownAt {B Bk : Nat} {W W' : World} {row : Option Nat} {k : Nat} {v : Value} (h : W.cell? ⟨k, 0, none⟩ = some v) (hne : k ≠ Bk) (hg : W.grownBy W' row) (hr : ∀ r, row = some r → r = Bk ∨ (B ≤ r ∧ ∃ o : Obj, W.heap[r]? = some o ∧ o.isCells = false)) :
    W'.cell? ⟨k, 0, none⟩ = some v ∧ W'.frozen? ⟨k, 0, none⟩ = W.frozen? ⟨k, 0, none⟩ := by
  obtain ⟨o, ho, hc⟩ := cells_of_cell h
  have e : W'.heap[k]? = W.heap[k]? := hg.block k (Array.getElem?_eq_some_iff.1 ho).1 (fun e => by
    rcases hr k e.symm with h1 | ⟨_, o', ho', hc'⟩
    · exact hne h1
    · rw [ho] at ho'; cases ho'; rw [hc] at hc'; cases hc')
  exact ⟨(World.cell?_of_block e).trans h, World.frozen?_of_block e⟩
theorem below_ownAt {β : Type} {n₀ B Bk : Nat} {w₀ : World} (hn : n₀ ≤ w₀.heap.size) (hB : n₀ ≤ B) (hk : n₀ ≤ Bk) : OwnAt B Bk (fun (_ : β) W => Below n₀ w₀ W) :=
  fun _ _ _ _ hs hg hr => hs.grown hg (Nat.le_trans hn hs.size) (fun k e => (hr k e).elim (fun h => by omega) (fun h => by omega))
theorem OwnAt.and_ {β : Type} {B Bk : Nat} {I I' : β → World → Prop} (h : OwnAt B Bk I) (h' : OwnAt B Bk I') : OwnAt B Bk (fun s W => I s W ∧ I' s W) := fun s W W' row hs hg hr => ⟨h s W W' row hs.1 hg hr, h' s W W' row hs.2 hg hr⟩

/-- The iterator's contract, where the boxes have just been laid. -/
theorem up_stops (F : Fence) (n : Nat) (h25 : F.fn 56) (h12 : F.fn 23) (hro : F.round = none) (hn : 2 ≤ n) (Ba Bp n₀ : Nat) (A : Option Addr) (c : Nat) (ps : List Int) (a : Int)
    (w0 : World) (hr0 : Kd.C (Kd.int .i64) w0 A ps.length ps) (hlen : ps.length ≤ 9223372036854775807)
    (hck : ∀ m W, Kd.C (Kd.int .i64) W A ps.length ps → CallsIn F m Try.prog 23 #[.slice A ps.length c] W fun e w' => e = .returned (.int .i64 (if treeB ps = true then 0 else 50)) ∧ ∃ q, w' = W.drewN q)
    (W : World) (hB0 : Below w0.heap.size w0 W) (hBa0 : w0.heap.size ≤ Ba) (hBa1 : Ba < n₀) (hBp0 : w0.heap.size ≤ Bp) (hBp1 : Bp < n₀) (hne : Ba ≠ Bp) (hn1 : n₀ ≤ W.heap.size)
    (hBa : W.cell? ⟨Ba, 0, none⟩ = some (.int .i64 a)) (hfa : W.frozen? ⟨Ba, 0, none⟩ = false) (hBp : W.cell? ⟨Bp, 0, none⟩ = some (.slice A ps.length c)) :
    StopsAt F n Try.prog 56 #[.pointer (some ⟨Ba, 0, none⟩), .pointer (some ⟨Bp, 0, none⟩)] (Below n₀) (fun ys => ys = upL ps a) (fun pre => pre <+: upL ps a) (upL ps a).length W Ba :=
  fun l J Jx W1 hW hJ _ hY h0 =>
  up1_in F n h25 h12 hro hn l Ba Bp n₀ A c ps a J Jx w0 hr0 hlen hck hJ hY W1 (hB0.trans (hW.mono hB0.size)) hBa0 hBa1 hBp0 hBp1 hne (by omega)
    ((hW.cell (p := ⟨Ba, 0, none⟩) (show Ba < _ by omega)).trans hBa) ((hW.frozen (p := ⟨Ba, 0, none⟩) (show Ba < _ by omega)).trans hfa) ((hW.cell (p := ⟨Bp, 0, none⟩) (show Bp < _ by omega)).trans hBp) h0

set_option maxRecDepth 100000 in
set_option maxHeartbeats 2000000 in
/-- tree.IsA: is b among what is above a. -/
theorem isA_in (F : Fence) (n : Nat) (h11 : F.fn 31) (h23 : F.fn 46) (h25 : F.fn 56) (h12 : F.fn 23) (hro : F.round = none) (hn : 4 ≤ n) (A : Option Addr) (c : Nat) (ps : List Int) (a b : Int)
    (w : World) (hr0 : Kd.C (Kd.int .i64) w A ps.length ps) (hlen : ps.length ≤ 9223372036854775807)
    (hck : ∀ m W, Kd.C (Kd.int .i64) W A ps.length ps → CallsIn F m Try.prog 23 #[.slice A ps.length c] W fun e w' => e = .returned (.int .i64 (if treeB ps = true then 0 else 50)) ∧ ∃ q, w' = W.drewN q) :
    CallsIn F n Try.prog 31 #[.slice A ps.length c, .int .i64 a, .int .i64 b] w fun e W' => e = .returned (.bool (decide (b ∈ upL ps a))) ∧ Below w.heap.size w W' := by
  have h1 : 1 ≤ n := by omega
  refine callsIn_of_wp_marks Try.func31 rfl h11 ?_ hro
  simp only [Try.ntmps31, List.size_toArray, List.length_cons, List.length_nil, Nat.reduceAdd, Nat.reduceSub, Array.replicate_succ, Array.replicate_zero, List.push_toArray, List.append_toArray, List.nil_append, List.cons_append]
  gi_wp2_with (gi_at_call 46; refine (up_in F (n - 1) h23 hro _ ⟨_, _, _, rfl⟩ _ _).mono ?_; rintro e w' ⟨rfl, rfl⟩)
  have c0 := cell_new_u w (.int .i64 b) 3
  have c1 := cell_new_u (w.alloc (.cells #[.int .i64 b] 3)) (.bool false) 4
  have c2 := cell_new_u ((w.alloc (.cells #[.int .i64 b] 3)).alloc (.cells #[.bool false] 4)) (.slice A ps.length c) 22
  have c3 := cell_new_u (((w.alloc (.cells #[.int .i64 b] 3)).alloc (.cells #[.bool false] 4)).alloc (.cells #[.slice A ps.length c] 22)) (.int .i64 a) 3
  simp only [World.size_alloc] at c1 c2 c3
  have hB0 : Below w.heap.size w ((((w.alloc (.cells #[.int .i64 b] 3)).alloc (.cells #[.bool false] 4)).alloc (.cells #[.slice A ps.length c] 22)).alloc (.cells #[.int .i64 a] 3)) :=
    ((((Below.refl _ w).alloc (Nat.le_refl _) _).alloc (by simp) _).alloc (by simp; omega) _).alloc (by simp; omega) _
  refine rangeAt hro h1 (gf := 56) (lb := #[.pointer (some ⟨w.heap.size + 1 + 1 + 1, 0, none⟩), .pointer (some ⟨w.heap.size + 1 + 1, 0, none⟩)]) rfl h25 (enters_of Try.func56 (by kernel_rfl) rfl)
    (Kp := Below (w.heap.size + 4))
    (up_stops F (n - 1) h25 h12 hro (by omega) (w.heap.size + 1 + 1 + 1) (w.heap.size + 1 + 1) (w.heap.size + 4) A c ps a w hr0 hlen hck _ hB0 (by omega) (by omega) (by omega) (by omega) (by omega) (by simp) c3.1 c3.2 (cell_alloc_u _ c2.1)) (by simp)
    belowK_t (belowK_b (by simp)) (Below.refl _ _)
    (fun pre W => ((∀ y ∈ pre, y ≠ b) ∧ W.cell? ⟨w.heap.size, 0, none⟩ = some (.int .i64 b) ∧ W.cell? ⟨w.heap.size + 1, 0, none⟩ = some (.bool false) ∧ W.frozen? ⟨w.heap.size + 1, 0, none⟩ = false) ∧ Below w.heap.size w W)
    (fun c' pre W => (c' = .ret ∧ b ∈ pre ∧ W.cell? ⟨w.heap.size + 1, 0, none⟩ = some (.bool true)) ∧ Below w.heap.size w W)
    (OwnAt.and_ (fun s A B row hs hg hr => ⟨hs.1, (cell_ownAt hs.2.1 (by omega) hg hr).1, (cell_ownAt hs.2.2.1 (by omega) hg hr).1, (cell_ownAt hs.2.2.1 (by omega) hg hr).2.trans hs.2.2.2⟩) (below_ownAt (Nat.le_refl _) (by simp; omega) (by omega)))
    (fun c' => OwnAt.and_ (fun s A B row hs hg hr => ⟨hs.1, hs.2.1, (cell_ownAt hs.2.2 (by omega) hg hr).1⟩) (below_ownAt (Nat.le_refl _) (by simp; omega) (by omega)))
    ⟨⟨by simp, cell_alloc_u _ (cell_alloc_u _ (cell_alloc_u _ c0.1)), cell_alloc_u _ (cell_alloc_u _ c1.1), frozen_alloc_u _ (cell_alloc_u _ c1.1) (frozen_alloc_u _ c1.1 c1.2)⟩, hB0⟩
    (fun x => { tmps := #[.slice A ps.length c, .int .i64 a, .int .i64 b, undef, undef, .pointer (some ⟨w.heap.size, 0, none⟩), .pointer (some ⟨w.heap.size + 1, 0, none⟩), .int .i64 x, .slice A ps.length c, .int .i64 a,
      .func (.func 56) #[] #[.pointer (some ⟨w.heap.size + 1 + 1 + 1, 0, none⟩), .pointer (some ⟨w.heap.size + 1 + 1, 0, none⟩)], .int .i64 x, undef, undef, undef], defers := [] }) ?assign ?body ?done ?stop
  case assign =>
    intro l x W K hK
    gi_wp2
    exact hK
  case body =>
    rintro l pre x W ⟨⟨hp, hcw, hcr, hfr⟩, hB⟩ _
    by_cases hx : x = b
    · have hxb : (x == b) = true := beq_iff_eq.mpr hx
      have Hx := Aside0.mk hx
      clear hx
      gi_wp2
      exact ⟨KeepsOthers.setCell _ _ _, ⟨rfl, List.mem_append.2 (.inr (by simp [Hx.out])), World.cell?_setCell_same' _ _ _ (by rw [hcr]; rfl)⟩, hB.setCell (p := ⟨w.heap.size + 1, 0, none⟩) (by simp) _⟩
    · have hxb : (x == b) = false := beq_eq_false_iff_ne.mpr hx
      gi_wp2
      exact ⟨KeepsOthers.refl _, Below.refl _ _, ⟨fun y hy => (List.mem_append.1 hy).elim (hp y) (fun e e' => by simp at e; exact hx (e.symm.trans e')), hcw, hcr, hfr⟩, hB⟩
  case done =>
    rintro D ys W hD rfl ⟨⟨hne, _, hcr, hfr⟩, hB⟩ hK
    have Hne := Aside0.mk hne
    clear hne
    gi_wp2
    have hK' := (KeepsOthers.setCell W ⟨w.heap.size + 1, 0, none⟩ (.bool false)).same D _ hK rfl
    refine ⟨by simp, .inl ⟨_, _, rfl, run_takeDeferred hK', ?_⟩⟩
    have hc5 := cell_kept (World.cell?_setCell_same' W ⟨w.heap.size + 1, 0, none⟩ (.bool false) (by rw [hcr]; rfl)) (grownBy_putObj' _ D (.deferred none)) (fun r e => by cases e; exact ⟨_, hK', rfl⟩)
    refine ⟨.bool false, ?_, by rw [decide_eq_false (fun h => Hne.out b h rfl)], (hB.setCell (p := ⟨w.heap.size + 1, 0, none⟩) (by simp) _).trans (belowK_b (w := w) (Nat.le_refl _) _ D _ _ (by simp at hD; omega) hK' rfl rfl)⟩
    simp [results, Try.f31, go_sem, hc5]
  case stop =>
    rintro D c' pre W hD hpre ⟨⟨rfl, hin, hcr⟩, hB⟩ hK
    have Hp := Aside0.mk hpre
    have Hi := Aside0.mk hin
    clear hpre hin
    gi_wp2
    refine ⟨by simp, .inl ⟨_, _, rfl, run_takeDeferred hK, ?_⟩⟩
    have hc5 := cell_kept hcr (grownBy_putObj' _ D (.deferred none)) (fun r e => by cases e; exact ⟨_, hK, rfl⟩)
    refine ⟨.bool true, ?_, by rw [decide_eq_true (Hp.out.subset Hi.out)], hB.trans (belowK_b (w := w) (Nat.le_refl _) W D _ _ (by simp at hD; omega) hK rfl rfl)⟩
    simp [results, Try.f31, go_sem, hc5]

/-- The same as a plain call. -/
theorem isA_calls (A : Option Addr) (c : Nat) (ps : List Int) (a b : Int) (w : World) (hr0 : Kd.C (Kd.int .i64) w A ps.length ps)
    (hck : ∀ W, Kd.C (Kd.int .i64) W A ps.length ps → Calls Try.prog 23 #[.slice A ps.length c] W fun e w' => e = .returned (.int .i64 (if treeB ps = true then 0 else 50)) ∧ ∃ q, w' = W.drewN q) :
    Calls Try.prog 31 #[.slice A ps.length c, .int .i64 a, .int .i64 b] w fun e W' => e = .returned (.bool (decide (b ∈ upL ps a))) ∧ Below w.heap.size w W' :=
  callsIn_wide.1 (isA_in Fence.wide 9 trivial trivial trivial trivial rfl (by omega) A c ps a b w hr0 hr0.2.1 (fun m W h => callsIn_wide.2 (hck W h)))

/-! ### Above: slices.Collect over the iterator -/
end Go.Proofs.YtdlagficilbbbaaU
