/- The federation's own table (package rti): what its cells say, and what keeps them. -/
import Derived.Test.YtaaaocckfnlgdaaGreatDoorPubC
import Derived.Deep.RegionHeld3
namespace Go.Proofs.YtaaaocckfnlgdaaGreatDoorT
open Go.RowKit Go.Proofs.YtaaaocckfnlgdaaGreatDoorW.PrintWords
set_option maxRecDepth 100000
set_option linter.unusedVariables false
set_option linter.unusedSimpArgs false

/-- What a member's cells say: its queue and its row of plain messages stand for themselves. -/
structure TM where
  is : Bool
  con : Bool
  time : Int
  look : Int
  kind : Int
  ask : Int
  sent : Int
  subs : Int
def mcells (m : TM) (q : Nat) : List Value := [.bool m.is, .bool m.con, .int .i64 m.time, .int .i64 m.look, .int .i64 m.kind, .int .i64 m.ask, .int .i64 m.sent, .pointer (some ⟨q, 0, none⟩), .slice none 0 0, .int .u32 m.subs]
/-- Where all lies. -/
structure Ad where
  base : Nat
  g : Nat
  bt : Nat
  ta : Nat
  tm : Nat
  P : Value
  q : Nat → Nat
  r : Nat → Nat
  ab : List Int
def rcells (P : Value) (bt : Nat) (m : Nat → TM) (q : Nat → Nat) : Array Value :=
  #[P, .pointer (some ⟨bt, 0, none⟩),
    .bool (m 0).is, .bool (m 0).con, .int .i64 (m 0).time, .int .i64 (m 0).look, .int .i64 (m 0).kind, .int .i64 (m 0).ask, .int .i64 (m 0).sent, .pointer (some ⟨q 0, 0, none⟩), .slice none 0 0, .int .u32 (m 0).subs,
    .bool (m 1).is, .bool (m 1).con, .int .i64 (m 1).time, .int .i64 (m 1).look, .int .i64 (m 1).kind, .int .i64 (m 1).ask, .int .i64 (m 1).sent, .pointer (some ⟨q 1, 0, none⟩), .slice none 0 0, .int .u32 (m 1).subs,
    .bool (m 2).is, .bool (m 2).con, .int .i64 (m 2).time, .int .i64 (m 2).look, .int .i64 (m 2).kind, .int .i64 (m 2).ask, .int .i64 (m 2).sent, .pointer (some ⟨q 2, 0, none⟩), .slice none 0 0, .int .u32 (m 2).subs,
    .bool (m 3).is, .bool (m 3).con, .int .i64 (m 3).time, .int .i64 (m 3).look, .int .i64 (m 3).kind, .int .i64 (m 3).ask, .int .i64 (m 3).sent, .pointer (some ⟨q 3, 0, none⟩), .slice none 0 0, .int .u32 (m 3).subs,
    .bool (m 4).is, .bool (m 4).con, .int .i64 (m 4).time, .int .i64 (m 4).look, .int .i64 (m 4).kind, .int .i64 (m 4).ask, .int .i64 (m 4).sent, .pointer (some ⟨q 4, 0, none⟩), .slice none 0 0, .int .u32 (m 4).subs,
    .bool (m 5).is, .bool (m 5).con, .int .i64 (m 5).time, .int .i64 (m 5).look, .int .i64 (m 5).kind, .int .i64 (m 5).ask, .int .i64 (m 5).sent, .pointer (some ⟨q 5, 0, none⟩), .slice none 0 0, .int .u32 (m 5).subs,
    .bool (m 6).is, .bool (m 6).con, .int .i64 (m 6).time, .int .i64 (m 6).look, .int .i64 (m 6).kind, .int .i64 (m 6).ask, .int .i64 (m 6).sent, .pointer (some ⟨q 6, 0, none⟩), .slice none 0 0, .int .u32 (m 6).subs,
    .bool (m 7).is, .bool (m 7).con, .int .i64 (m 7).time, .int .i64 (m 7).look, .int .i64 (m 7).kind, .int .i64 (m 7).ask, .int .i64 (m 7).sent, .pointer (some ⟨q 7, 0, none⟩), .slice none 0 0, .int .u32 (m 7).subs,
    .bool false]
def mset (m : Nat → TM) (f : Nat) (x : TM) : Nat → TM := fun k => if k = f then x else m k
structure Rt (w : World) (d : Ad) (ps ss : List Int) (m : Nat → TM) : Prop where
  blk : w.heap[d.g]? = some (.cells (rcells d.P d.bt m d.q) 60 (0, 0))
  tab : Tab w d.bt d.ta d.tm d.ab ps ss
  que : ∀ i, i < 8 → w.heap[d.q i]? = some (.cells #[.int .i64 64, .slice none 0 0, .map (some (d.r i))] 92 (0, 0))
  g0 : d.base ≤ d.g
  t0 : d.base ≤ d.bt
  nt : d.bt ≠ d.g
  na : d.ta ≠ d.g
  nq : ∀ i, i < 8 → d.q i ≠ d.g
  nqt : ∀ i, i < 8 → d.q i ≠ d.bt
section
variable {w : World} {d : Ad} {ps ss : List Int} {m : Nat → TM}
theorem Rt.drew (H : Rt w d ps ss m) : Rt w.drew d ps ss m := { H with tab := H.tab.drew }
theorem Rt.below {w' : World} (H : Rt w d ps ss m) (h : Below w.heap.size w w') : Rt w' d ps ss m :=
  { H with
    blk := blk_below H.blk h
    tab := H.tab.below h
    que := fun i hi => blk_below (H.que i hi) h }
theorem Rt.set (H : Rt w d ps ss m) (k : Nat) (v : Value) {m' : Nat → TM} (h : (rcells d.P d.bt m d.q).setIfInBounds k v = rcells d.P d.bt m' d.q) : Rt (w.setCell ⟨d.g, k, none⟩ v) d ps ss m' :=
  { H with
    blk := blk_put H.blk k v h
    tab := H.tab.but (S := fun b => b = d.g) (But.set (S := fun b => b = d.g) (But.refl _ w) (p := ⟨d.g, k, none⟩) rfl v) H.nt H.na
    que := fun i hi => blk_far (H.que i hi) (p := ⟨d.g, k, none⟩) (H.nq i hi) v }
/-- The table of classes has turned. -/
theorem Rt.turn {w' : World} {ps' ss' : List Int} (H : Rt w d ps ss m) (h : Tab w' d.bt d.ta d.tm d.ab ps' ss') (hb : But (fun k => k = d.bt) w w') : Rt w' d ps' ss' m :=
  { H with
    blk := hb.blk H.blk (fun e => H.nt e.symm)
    tab := h
    que := fun i hi => hb.blk (H.que i hi) (H.nqt i hi) }
end
/-- What a call leaves alone: all below the base. -/
theorem below_put {b : Nat} {w w' : World} (h : Below b w w') {g k : Nat} (hg : b ≤ g) (v : Value) : Below b w (w'.setCell ⟨g, k, none⟩ v) := h.setCell (p := ⟨g, k, none⟩) hg v

set_option maxHeartbeats 1000000 in
/-- All checks hold: no error. -/
theorem all_calls (f : Int) (g n c : Nat) (hn : n ≤ 1000) (w : World) (H : ∀ i, i < n → ∃ e : Int, w.cell? ⟨g, i * 2, none⟩ = some (.bool true) ∧ w.cell? ⟨g, i * 2 + 1, none⟩ = some (.int .i64 e)) :
    Calls Tryz.prog 20 #[.int .i64 f, .slice (some ⟨g, 0, none⟩) n c] w fun e w' => e = .returned .nilIface ∧ Below w.heap.size w w' := by
  have HH := Aside0.mk H
  clear H
  go_enter Tryz.func20, Tryz.ntmps20
  go_wp2
  go_loopw [9] (fun v9 wr => ∃ i : Nat, i ≤ n ∧ v9 = .int .i64 i ∧ Aside0 (Below w.heap.size w wr)) (fun i _ => n - (intOf i).toNat)
  case atStart => exact ⟨0, by omega, rfl, ⟨Below.refl _ _⟩⟩
  case round =>
    obtain ⟨i, hi, rfl, BW⟩ := hrel
    have hi0 : (0 : Int) ≤ (i : Int) := by omega
    by_cases hlt : i < n
    · have hlt1 : (i : Int) < (n : Int) := by omega
      obtain ⟨e, h0, h1⟩ := HH.out i hlt
      replace h0 := pw_cell_below BW.out h0
      replace h1 := pw_cell_below BW.out h1
      go_wp2
      go_roundw
      case rel => exact ⟨i + 1, by omega, by go_num, ⟨below_alloc BW.out _⟩⟩
      case measure => simp [intOf]; omega
    · have hlt1 : ¬ (i : Int) < (n : Int) := by omega
      go_wp2
      go_ret
      exact ⟨rfl, BW.out⟩
end Go.Proofs.YtaaaocckfnlgdaaGreatDoorT
