/- The tables of package pubsub and of the document's own text: what their cells say, and what keeps them. -/
import Derived.Test.YtaaaocckfnlgdaaGreatDoorProg
import Derived.Test.YtaaaocckfnlgdaaGreatDoorWKept
import Derived.WalkKit
import Derived.Laws.BitsAllLaws
namespace Go.Proofs.YtaaaocckfnlgdaaGreatDoorT
open Go.RowKit Go.Proofs.YtaaaocckfnlgdaaGreatDoorW.PrintWords
set_option linter.unusedVariables false
set_option linter.unusedSimpArgs false

/-! ### 1. What a call leaves alone -/
/-- What was there has not turned, but for the blocks of S. -/
structure But (S : Nat → Prop) (w w' : World) : Prop where
  os : w'.os = w.os
  tape : w'.tape = w.tape
  output : w'.output = w.output
  size : w.heap.size ≤ w'.heap.size
  block : ∀ k, k < w.heap.size → ¬ S k → w'.heap[k]? = w.heap[k]?
theorem But.refl (S : Nat → Prop) (w : World) : But S w w := ⟨rfl, rfl, rfl, Nat.le_refl _, fun _ _ _ => rfl⟩
theorem But.trans {S : Nat → Prop} {a b c : World} (h : But S a b) (k : But S b c) : But S a c :=
  ⟨k.os.trans h.os, k.tape.trans h.tape, k.output.trans h.output, Nat.le_trans h.size k.size, fun i hi hn => (k.block i (Nat.lt_of_lt_of_le hi h.size) hn).trans (h.block i hi hn)⟩
theorem But.mono {S S' : Nat → Prop} {a b : World} (h : But S a b) (hs : ∀ k, S k → S' k) : But S' a b := ⟨h.os, h.tape, h.output, h.size, fun i hi hn => h.block i hi (fun hk => hn (hs i hk))⟩
theorem But.of_below {S : Nat → Prop} {a b : World} (h : Below a.heap.size a b) : But S a b := ⟨h.os, h.tape, h.output, h.size, fun i hi _ => h.block i hi⟩
theorem But.set {S : Nat → Prop} {a b : World} (h : But S a b) {p : Addr} (hp : S p.block) (u : Value) : But S a (b.setCell p u) :=
  h.trans ⟨rfl, rfl, rfl, by simp [World.setCell], fun i hi hn => Below.heap_setCell b p u i (fun e => hn (e ▸ hp))⟩
theorem But.drew {S : Nat → Prop} {a b : World} (h : But S a b) : But S a b.drew := ⟨h.os, h.tape, h.output, h.size, h.block⟩
theorem But.drewN {S : Nat → Prop} {a b : World} (h : But S a b) (n : Nat) : But S a (b.drewN n) := ⟨h.os, h.tape, h.output, h.size, h.block⟩
theorem But.then_ {S : Nat → Prop} {a b c : World} (h : But S a b) (k : Below b.heap.size b c) : But S a c := h.trans (But.of_below k)
/-- Whatever may have turned is new since. -/
theorem But.below {S : Nat → Prop} {B : Nat} {w a b : World} (hb : Below B w a) (h : But S a b) (hB : B ≤ a.heap.size) (hs : ∀ k, S k → B ≤ k) : Below B w b :=
  hb.trans ⟨h.os, h.tape, h.output, h.size, fun i hi => h.block i (by omega) (fun hk => by have := hs i hk; omega)⟩
theorem But.cell {S : Nat → Prop} {w w' : World} (h : But S w w') {a : Addr} {v : Value} (hc : w.cell? a = some v) (hn : ¬ S a.block) : w'.cell? a = some v := by
  have := h.block a.block (World.block_lt_of_cell? w a hc) hn
  simpa [World.cell?, this] using hc
theorem But.blk {S : Nat → Prop} {w w' : World} (h : But S w w') {g : Nat} {o : Obj} (hb : w.heap[g]? = some o) (hn : ¬ S g) : w'.heap[g]? = some o := (h.block g (blk_lt hb) hn).trans hb

/-! ### 2. A table of pubsub: one block (a slice, eight words, eight words), and what the slice shows -/
def tcells (v : Value) (ps ss : List Int) : Array Value := (v :: (nums .u32 ps ++ nums .u32 ss)).toArray
theorem tcells_above (v : Value) (ps ss : List Int) : (tcells v ps ss)[0]? = some v := rfl
theorem tcells_pub (v : Value) (ps ss : List Int) (f : Nat) (hf : f < ps.length) : (tcells v ps ss)[1 + f]? = some (.int .u32 (ps.getD f 0)) := by
  unfold tcells
  rw [List.getElem?_toArray, Nat.add_comm 1 f, List.getElem?_cons_succ, List.getElem?_append_left (by simpa [nums] using hf)]
  simp [nums, List.getElem?_eq_getElem hf, List.getD_eq_getElem?_getD]
theorem tcells_sub (v : Value) (ps ss : List Int) (f : Nat) (hp : ps.length = 8) (hf : f < ss.length) : (tcells v ps ss)[9 + f]? = some (.int .u32 (ss.getD f 0)) := by
  unfold tcells
  have e : 9 + f = (nums .u32 ps).length + f + 1 := by simp [nums, hp]; omega
  rw [List.getElem?_toArray, e, List.getElem?_cons_succ, List.getElem?_append_right (by omega), Nat.add_sub_cancel_left]
  simp [nums, List.getElem?_eq_getElem hf, List.getD_eq_getElem?_getD]
theorem tcells_set0 (v u : Value) (ps ss : List Int) : (tcells v ps ss).setIfInBounds 0 u = tcells u ps ss := by
  unfold tcells
  simp
theorem tcells_setp (v : Value) (ps ss : List Int) (f : Nat) (x : Int) (hf : f < ps.length) : (tcells v ps ss).setIfInBounds (1 + f) (.int .u32 x) = tcells v (ps.set f x) ss := by
  unfold tcells
  rw [Nat.add_comm 1 f, List.setIfInBounds_toArray, List.set_cons_succ, List.set_append_left _ _ (by simpa [nums] using hf)]
  simp [nums, List.map_set]
theorem tcells_sets (v : Value) (ps ss : List Int) (f : Nat) (x : Int) (hp : ps.length = 8) : (tcells v ps ss).setIfInBounds (9 + f) (.int .u32 x) = tcells v ps (ss.set f x) := by
  unfold tcells
  have e : 9 + f = (nums .u32 ps).length + f + 1 := by simp [nums, hp]; omega
  rw [e, List.setIfInBounds_toArray, List.set_cons_succ, List.set_append_right _ _ (by omega), Nat.add_sub_cancel_left]
  simp [nums, List.map_set]
def u32s (l : List Int) : Prop := ∀ x ∈ l, 0 ≤ x ∧ x < 4294967296
structure Tab (w : World) (b a m : Nat) (ab ps ss : List Int) : Prop where
  blk : w.heap[b]? = some (.cells (tcells (.slice (some ⟨a, 0, none⟩) ab.length m) ps ss) 105 (0, 0))
  ne : a ≠ b
  reads : ∀ j x, ab[j]? = some x → w.cell? ⟨a, j, none⟩ = some (.int .u32 x)
  cap : ab.length ≤ m
  le : ab.length ≤ 16
  wa : u32s ab
  lp : ps.length = 8
  wp : u32s ps
  ls : ss.length = 8
  ws : u32s ss
theorem Tab.but {S : Nat → Prop} {w w' : World} {b a m : Nat} {ab ps ss : List Int} (H : Tab w b a m ab ps ss) (h : But S w w') (h1 : ¬ S b) (h2 : ¬ S a) : Tab w' b a m ab ps ss :=
  { H with blk := h.blk H.blk h1, reads := fun j x hx => h.cell (H.reads j x hx) h2 }
theorem Tab.below {w w' : World} {b a m : Nat} {ab ps ss : List Int} (H : Tab w b a m ab ps ss) (h : Below w.heap.size w w') : Tab w' b a m ab ps ss :=
  H.but (S := fun _ => False) (But.of_below h) id id
section
variable {w : World} {b a m : Nat} {ab ps ss : List Int} (H : Tab w b a m ab ps ss)
include H
theorem Tab.drew : Tab w.drew b a m ab ps ss := { H with }
theorem Tab.drewN (n : Nat) : Tab (w.drewN n) b a m ab ps ss := { H with }
theorem Tab.c0 : w.cell? ⟨b, 0, none⟩ = some (.slice (some ⟨a, 0, none⟩) ab.length m) := (blk_cell H.blk 0).trans (tcells_above _ _ _)
theorem Tab.cp (f : Nat) (hf : f < 8) : w.cell? ⟨b, 1 + f, none⟩ = some (.int .u32 (ps.getD f 0)) := (blk_cell H.blk _).trans (tcells_pub _ _ _ f (by have := H.lp; omega))
theorem Tab.cs (f : Nat) (hf : f < 8) : w.cell? ⟨b, 9 + f, none⟩ = some (.int .u32 (ss.getD f 0)) := (blk_cell H.blk _).trans (tcells_sub _ _ _ f H.lp (by have := H.ls; omega))
theorem Tab.ca (c : Nat) (hc : c < ab.length) : w.cell? ⟨a, c, none⟩ = some (.int .u32 (ab.getD c 0)) := H.reads c _ (by rw [List.getD_eq_getElem?_getD, List.getElem?_eq_getElem hc]; rfl)
theorem Tab.fz (i : Nat) : w.frozen? ⟨b, i, none⟩ = false := blk_frozen H.blk i
theorem Tab.setp (f : Nat) (x : Int) (hf : f < 8) (hx : 0 ≤ x ∧ x < 4294967296) : Tab (w.setCell ⟨b, 1 + f, none⟩ (.int .u32 x)) b a m ab (ps.set f x) ss :=
  { H with
    blk := blk_put H.blk _ _ (tcells_setp _ _ _ f x (by have := H.lp; omega))
    reads := fun j y hy => (But.set (S := fun k => k = b) (But.refl _ w) (p := ⟨b, 1 + f, none⟩) rfl _).cell (H.reads j y hy) H.ne
    lp := by rw [List.length_set]; exact H.lp
    wp := fun y hy => by
      rcases List.mem_or_eq_of_mem_set hy with h | rfl
      · exact H.wp y h
      · exact hx }
theorem Tab.sets (f : Nat) (x : Int) (hf : f < 8) (hx : 0 ≤ x ∧ x < 4294967296) : Tab (w.setCell ⟨b, 9 + f, none⟩ (.int .u32 x)) b a m ab ps (ss.set f x) :=
  { H with
    blk := blk_put H.blk _ _ (tcells_sets _ _ _ f x H.lp)
    reads := fun j y hy => (But.set (S := fun k => k = b) (But.refl _ w) (p := ⟨b, 9 + f, none⟩) rfl _).cell (H.reads j y hy) H.ne
    ls := by rw [List.length_set]; exact H.ls
    ws := fun y hy => by
      rcases List.mem_or_eq_of_mem_set hy with h | rfl
      · exact H.ws y h
      · exact hx }
end

/-! ### 3. What the calls answer, in plain words -/
def errT (n : Nat) (f c : Int) : Int := if 0 ≤ f ∧ f < 8 then if 0 ≤ c ∧ c < n then 0 else 81 else 1
theorem errT_f {n : Nat} {f c : Int} (h : ¬ (0 ≤ f ∧ f < 8)) : errT n f c = 1 := if_neg h
theorem errT_c {n : Nat} {f c : Int} (h : 0 ≤ f ∧ f < 8) (h' : ¬ (0 ≤ c ∧ c < n)) : errT n f c = 81 := by unfold errT; rw [if_pos h, if_neg h']
theorem errT_ok {n : Nat} {f c : Int} (h : 0 ≤ f ∧ f < 8) (h' : 0 ≤ c ∧ c < n) : errT n f c = 0 := by unfold errT; rw [if_pos h, if_pos h']
theorem errT_inv {n : Nat} {f c : Int} (h : errT n f c = 0) : ∃ F C : Nat, f = F ∧ c = C ∧ F < 8 ∧ C < n := by
  unfold errT at h
  by_cases h1 : 0 ≤ f ∧ f < 8
  · rw [if_pos h1] at h
    by_cases h2 : 0 ≤ c ∧ c < n
    · exact ⟨f.toNat, c.toNat, by omega, by omega, by omega, by omega⟩
    · rw [if_neg h2] at h
      omega
  · rw [if_neg h1] at h
    omega
def pubsB (n : Nat) (ps : List Int) (f c : Int) : Bool := decide (errT n f c = 0) && (ps.getD f.toNat 0).toNat.testBit c.toNat
def hearsB (ab ss : List Int) (f c : Int) : Bool := decide (errT ab.length f c = 0) && ((ss.getD f.toNat 0).toNat &&& (ab.getD c.toNat 0).toNat != 0)
def setBit (x : Int) (c : Nat) (is : Bool) : Int := if is then ((x.toNat ||| 2 ^ c : Nat) : Int) else ((x.toNat &&& (4294967295 - 2 ^ c) : Nat) : Int)
def putW (n : Nat) (ps : List Int) (f c : Int) (is : Bool) : List Int := if errT n f c = 0 then ps.set f.toNat (setBit (ps.getD f.toNat 0) c.toNat is) else ps
def leaveW (ps : List Int) (f : Int) : List Int := if 0 ≤ f ∧ f < 8 then ps.set f.toNat 0 else ps
/-- Whom a message goes to. -/
def routeL (ab ss : List Int) (f c : Int) : List Int := ((List.range 8).map (fun g : Nat => (g : Int))).filter (fun g => decide (g ≠ f) && hearsB ab ss g c)
def routeE (n : Nat) (ps : List Int) (f c : Int) : Int := if errT n f c = 0 then if pubsB n ps f c = true then 0 else 211 else errT n f c

/-! ### 4. Bits -/
theorem two_pow_lt {c : Nat} (hc : c < 16) : 2 ^ c ≤ 32768 ∧ 1 ≤ 2 ^ c := ⟨by
  have := Nat.pow_le_pow_right (show 0 < 2 by omega) (show c ≤ 15 by omega)
  omega, Nat.one_le_two_pow⟩
theorem bit_shift {c : Nat} (hc : c < 16) : (2 : Int) ^ c % 4294967296 = ((2 ^ c : Nat) : Int) := by
  have h := two_pow_lt hc
  have e : ((2 ^ c : Nat) : Int) = (2 : Int) ^ c := by push_cast; rfl
  rw [← e]
  omega
theorem bit_on {x : Int} {c : Nat} (hc : c < 16) (h : 0 ≤ x ∧ x < 4294967296) : bits .or .u32 x ((2 : Int) ^ c % 4294967296) = setBit x c true := by
  have h2 := two_pow_lt hc
  rw [bit_shift hc, u32_or x _ h.1 h.2 (by omega) (by omega), Int.toNat_natCast]
  rfl
theorem bit_off {x : Int} {c : Nat} (hc : c < 16) (h : 0 ≤ x ∧ x < 4294967296) : bits .andNot .u32 x ((2 : Int) ^ c % 4294967296) = setBit x c false := by
  have h2 := two_pow_lt hc
  rw [bit_shift hc, u32_andNot x _ h.1 h.2 (by omega) (by omega), Int.toNat_natCast]
  rfl
theorem setBit_u32 {x : Int} {c : Nat} (is : Bool) (hc : c < 16) (h : 0 ≤ x ∧ x < 4294967296) : 0 ≤ setBit x c is ∧ setBit x c is < 4294967296 := by
  have h2 := two_pow_lt hc
  unfold setBit
  cases is with
  | true =>
    have := Nat.or_lt_two_pow (x := x.toNat) (y := 2 ^ c) (n := 32) (by omega) (by omega)
    simp only [if_true]
    omega
  | false =>
    have := Nat.and_le_left (n := x.toNat) (m := 4294967295 - 2 ^ c)
    simp only [Bool.false_eq_true, if_false]
    omega
theorem bit_asks {x : Int} {c : Nat} (hc : c < 16) (h : 0 ≤ x ∧ x < 4294967296) : (bits .and .u32 (x / (2 : Int) ^ c) 1 == 1) = x.toNat.testBit c := by
  obtain ⟨n, rfl⟩ := Int.eq_ofNat_of_zero_le h.1
  have e : ((n : Int) / (2 : Int) ^ c) = ((n / 2 ^ c : Nat) : Int) := by
    rw [Int.natCast_ediv]
    push_cast
    rfl
  have hl : n / 2 ^ c ≤ n := Nat.div_le_self _ _
  rw [e, Int.toNat_natCast]
  unfold Nat.testBit
  rw [Nat.shiftRight_eq_div_pow, Nat.and_comm]
  generalize n / 2 ^ c = q at hl
  rw [u32_and _ _ (by omega) (by omega) (by omega) (by omega), Int.toNat_natCast]
  have e1 : (1 : Int).toNat = 1 := rfl
  rw [e1]
  rcases Nat.mod_two_eq_zero_or_one q with h0 | h0 <;> simp [Nat.one_and_eq_mod_two, Nat.and_one_is_mod, h0]
theorem bit_meets {x y : Int} (hx : 0 ≤ x ∧ x < 4294967296) (hy : 0 ≤ y ∧ y < 4294967296) : (bits .and .u32 x y != 0) = (x.toNat &&& y.toNat != 0) := by
  rw [u32_and x y hx.1 hx.2 hy.1 hy.2]
  by_cases h : x.toNat &&& y.toNat = 0
  · rw [h]
    rfl
  · rw [bne_iff_ne.mpr h, bne_iff_ne.mpr (by omega)]
theorem u32s_getD {l : List Int} (h : u32s l) (i : Nat) : 0 ≤ l.getD i 0 ∧ l.getD i 0 < 4294967296 := by
  rw [List.getD_eq_getElem?_getD]
  rcases Nat.lt_or_ge i l.length with hi | hi
  · rw [List.getElem?_eq_getElem hi]
    exact h _ (List.getElem_mem hi)
  · rw [List.getElem?_eq_none hi]
    decide
theorem setBit_test {x : Int} {c d : Nat} (is : Bool) (hc : c < 16) (hd : d < 16) : (setBit x c is).toNat.testBit d = if d = c then is else x.toNat.testBit d := by
  unfold setBit
  cases is with
  | true =>
    simp only [if_true, Int.toNat_natCast, Nat.testBit_or, Nat.testBit_two_pow]
    by_cases e : d = c
    · simp [e]
    · simp [e, Ne.symm e]
  | false =>
    simp only [Bool.false_eq_true, if_false, Int.toNat_natCast, Nat.testBit_and]
    rw [show 4294967295 - 2 ^ c = 2 ^ 32 - (2 ^ c + 1) by omega, Nat.testBit_two_pow_sub_succ (Nat.pow_lt_pow_right (by omega) (by omega)), Nat.testBit_two_pow]
    by_cases e : d = c
    · simp [e]
    · simp [e, Ne.symm e, show d < 32 by omega]
end Go.Proofs.YtaaaocckfnlgdaaGreatDoorT
