-- Written by gp.py (this project's driver over the kit's print) out of the translation and wip/given; Lean checks it.
import Derived.Test.YtccidadepjcjjaaProg
import Derived.Below
import Derived.Deep.Draws
import Derived.Deep.AppendLies
import Derived.Maps.AppendAt
import Derived.OwnWalk
import Derived.Laws.BytesArg
import Derived.Laws.MakeOwn
import Derived.Laws.OwnMore
import Derived.Deep.OwnRows
import Derived.Tactics
import Derived.Lib.ConvBytes
import Derived.Laws.Slices
import Derived.WalkKit
import Derived.KernelRfl
import Derived.RowKit3
import Derived.Deep.LoopGhost
import Derived.Deep.QuietTactic
import Derived.BigQuiet
import Derived.WideLaws
import Derived.Deep.DeepCutAuto
import Derived.Deep.CutBlock
import Derived.Deep.RegionHeld3
import Derived.Laws.Rows
import Derived.Lib.AppendStr
import Derived.ArgAppend
import Derived.Laws.IdiomCopy
import Derived.OrdersHeld
import Derived.Laws.BitsLemmas
import Derived.RowKit
import Derived.Test.YtccidadepjcjjaaIdx
import Derived.Lib.BufferMore
import Derived.Test.YtccidadepjcjjaaSet
import Derived.Test.YtccidadepjcjjaaReads
import Derived.Test.YtccidadepjcjjaaWWords
import Derived.Test.YtccidadepjcjjaaWLast
import Derived.Test.YtccidadepjcjjaaWTab
import Derived.Test.YtccidadepjcjjaaWFour
import Derived.Test.YtccidadepjcjjaaWQPut
import Derived.Test.YtccidadepjcjjaaWApart
import Derived.Test.YtccidadepjcjjaaWArr
import Derived.Test.YtccidadepjcjjaaWZeros
import Derived.Test.YtccidadepjcjjaaWFoot
import Derived.Test.YtccidadepjcjjaaWKept
import Derived.Test.YtccidadepjcjjaaWShare
import Derived.Test.YtccidadepjcjjaaWN
import Derived.Test.YtccidadepjcjjaaWFootNe
import Derived.Test.YtccidadepjcjjaaWAt
import Derived.Test.YtccidadepjcjjaaWEqStruct
import Derived.Test.YtccidadepjcjjaaWRepsOne
import Derived.Test.YtccidadepjcjjaaWInv
import Derived.Test.YtccidadepjcjjaaWInvWords
import Derived.Test.YtccidadepjcjjaaWGuard
import Derived.Test.YtccidadepjcjjaaWNEv
import Derived.Test.YtccidadepjcjjaaWMore
namespace Go.Proofs.Ytccidadepjcjjaa.PTableTurned
open Go.RowKit Go.Proofs.YtccidadepjcjjaaR Go.Proofs.YtccidadepjcjjaaW.PrintWords Go.Proofs.YtccidadepjcjjaaW.PrintLast Go.Proofs.YtccidadepjcjjaaW.PrintMore
attribute [local go_sem] max2_int min2_int max_two min_two max_three min_three max_four min_four   -- for this text's walks alone
set_option linter.unusedVariables false
set_option linter.unusedSimpArgs false



def errW : Option Int → Value
  | none => .nilIface
  | some c => .iface 0 (.int .i64 c)
theorem errW_none : errW none = .nilIface := rfl
theorem errW_some (c : Int) : errW (some c) = .iface 0 (.int .i64 c) := rfl

theorem info23 : (Try.prog.info? 23).map (fun i => (i.zero, i.size, i.bytes)) = some (some (.agg #[(.int .i64 0), (.int .i64 0), (.int .i64 0)]), 3, 24) := by kernel_rfl
theorem info49 : (Try.prog.info? 49).map (fun i => (i.zero, i.size, i.bytes)) = some (some (.agg #[(.int .i64 0), (.int .i64 0), (.int .i64 0), (.slice none 0 0)]), 4, 48) := by kernel_rfl
-- the values' own types
/-! #### struct type 23 -/
structure S23 where
  f0 : Int
  f1 : Int
  f2 : Int
def z23 : S23 := ⟨(0 : Int), (0 : Int), (0 : Int)⟩
def k23 : Kd S23 := Kd.iso (Kd.pair (Kd.int .i64) (Kd.pair (Kd.int .i64) (Kd.int .i64))) (fun x : S23 => (x.f0, x.f1, x.f2))
theorem k23_open {w : World} {x : S23} {cs : List Value} (h : k23.K w x cs) : cs = [.int .i64 x.f0, .int .i64 x.f1, .int .i64 x.f2] := by
  obtain ⟨_, _, rfl, rfl, ⟨_, _, rfl, rfl, rfl⟩⟩ := h
  exact rfl
theorem k23_openM {w : World} {base : Nat} {ok : Nat → Prop} {x : S23} {cs : List Value} (h : k23.M w base ok x cs) : cs = [.int .i64 x.f0, .int .i64 x.f1, .int .i64 x.f2] := by
  obtain ⟨_, _, rfl, rfl, ⟨_, _, rfl, rfl, rfl⟩⟩ := h
  exact rfl
theorem k23_mk (w : World) (x : S23)  : k23.K w x [.int .i64 x.f0, .int .i64 x.f1, .int .i64 x.f2] := ⟨[.int .i64 x.f0], [.int .i64 x.f1, .int .i64 x.f2], rfl, rfl, ⟨[.int .i64 x.f1], [.int .i64 x.f2], rfl, rfl, rfl⟩⟩
theorem k23_mkM (w : World) (base : Nat) (ok : Nat → Prop) (x : S23)  : k23.M w base ok x [.int .i64 x.f0, .int .i64 x.f1, .int .i64 x.f2] := ⟨[.int .i64 x.f0], [.int .i64 x.f1, .int .i64 x.f2], rfl, rfl, ⟨[.int .i64 x.f1], [.int .i64 x.f2], rfl, rfl, rfl⟩⟩
def rd_T23 (xs : List S23) (i : Int) : S23 := xs.getD i.toNat z23
theorem at_T23 {w : World} {A : Option Addr} {n : Nat} {xs : List S23} (h : Kd.C k23 w A n xs) (i : Int) (h0 : 0 ≤ i) (h1 : i < n) : ∃ ad , A = some ad ∧ w.cell? (ad.add (i.toNat * 3)) = some (.int .i64 (rd_T23 xs i).f0) ∧ w.cell? ⟨(ad.add (i.toNat * 3)).block, (ad.add (i.toNat * 3)).off + 1, none⟩ = some (.int .i64 (rd_T23 xs i).f1) ∧ w.cell? ⟨(ad.add (i.toNat * 3)).block, (ad.add (i.toNat * 3)).off + 2, none⟩ = some (.int .i64 (rd_T23 xs i).f2) := by
  obtain ⟨ad, c, e, _, hK, hc0⟩ := Kd.C_get h z23 i h0 h1
  have hc : ∀ j u, c[j]? = some u → w.cell? (ad.add (i.toNat * 3 + j)) = some u := hc0
  obtain rfl := k23_open hK
  exact ⟨ad, e, hc 0 _ rfl, by rw [← add_field _ _ 1 (by omega)]; exact hc 1 _ rfl, by rw [← add_field _ _ 2 (by omega)]; exact hc 2 _ rfl⟩

def rd_L2 (xs : List (List S23)) (i : Int) : (List S23) := xs.getD i.toNat ([] : List S23)
theorem at_L2 {w : World} {A : Option Addr} {n : Nat} {xs : List (List S23)} (h : Kd.C (Kd.slice 23 k23) w A n xs) (i : Int) (h0 : 0 ≤ i) (h1 : i < n) : ∃ ad A0 c0, A = some ad ∧ w.cell? (ad.add i.toNat) = some (.slice A0 (rd_L2 xs i).length c0) ∧ (rd_L2 xs i).length ≤ c0 ∧ k23.C w A0 (rd_L2 xs i).length (rd_L2 xs i) := by
  obtain ⟨ad, c, e, _, hK, hc0⟩ := Kd.C_get h ([] : List S23) i h0 h1
  have hc : ∀ j u, c[j]? = some u → w.cell? (ad.add (i.toNat * 1 + j)) = some u := hc0
  obtain ⟨A0, c0, rfl, l0, g0⟩ := hK
  exact ⟨ad, A0, c0, e, by have hq := hc 0 _ rfl; rwa [Nat.mul_one, Nat.add_zero] at hq, l0, g0⟩

/-! #### struct type 49 -/
structure S49 where
  f0 : Int
  f1 : Int
  f2 : Int
  f3 : (List S23)
def z49 : S49 := ⟨(0 : Int), (0 : Int), (0 : Int), ([] : List S23)⟩
def k49 : Kd S49 := Kd.iso (Kd.pair (Kd.int .i64) (Kd.pair (Kd.int .i64) (Kd.pair (Kd.int .i64) (Kd.slice 23 k23)))) (fun x : S49 => (x.f0, x.f1, x.f2, x.f3))
theorem k49_open {w : World} {x : S49} {cs : List Value} (h : k49.K w x cs) : ∃ A3 c3, cs = [.int .i64 x.f0, .int .i64 x.f1, .int .i64 x.f2, .slice A3 x.f3.length c3] ∧ x.f3.length ≤ c3 ∧ k23.C w A3 x.f3.length x.f3 := by
  obtain ⟨_, _, rfl, rfl, ⟨_, _, rfl, rfl, ⟨_, _, rfl, rfl, ⟨A3, c3, rfl, l3, g3⟩⟩⟩⟩ := h
  exact ⟨A3, c3, rfl, l3, g3⟩
theorem k49_openM {w : World} {base : Nat} {ok : Nat → Prop} {x : S49} {cs : List Value} (h : k49.M w base ok x cs) : ∃ v3, cs = [.int .i64 x.f0, .int .i64 x.f1, .int .i64 x.f2, v3] ∧ k23.R 23 w base ok v3 x.f3 := by
  obtain ⟨_, _, rfl, rfl, ⟨_, _, rfl, rfl, ⟨_, _, rfl, rfl, ⟨v3, rfl, g3⟩⟩⟩⟩ := h
  exact ⟨v3, rfl, g3⟩
theorem k49_mk (w : World) (x : S49) {A3 : Option Addr} {c3 : Nat} (l3 : x.f3.length ≤ c3) (g3 : k23.C w A3 x.f3.length x.f3) : k49.K w x [.int .i64 x.f0, .int .i64 x.f1, .int .i64 x.f2, .slice A3 x.f3.length c3] := ⟨[.int .i64 x.f0], [.int .i64 x.f1, .int .i64 x.f2, .slice A3 x.f3.length c3], rfl, rfl, ⟨[.int .i64 x.f1], [.int .i64 x.f2, .slice A3 x.f3.length c3], rfl, rfl, ⟨[.int .i64 x.f2], [.slice A3 x.f3.length c3], rfl, rfl, ⟨A3, c3, rfl, l3, g3⟩⟩⟩⟩
theorem k49_mkM (w : World) (base : Nat) (ok : Nat → Prop) (x : S49) {v3 : Value} (g3 : k23.R 23 w base ok v3 x.f3) : k49.M w base ok x [.int .i64 x.f0, .int .i64 x.f1, .int .i64 x.f2, v3] := ⟨[.int .i64 x.f0], [.int .i64 x.f1, .int .i64 x.f2, v3], rfl, rfl, ⟨[.int .i64 x.f1], [.int .i64 x.f2, v3], rfl, rfl, ⟨[.int .i64 x.f2], [v3], rfl, rfl, ⟨v3, rfl, g3⟩⟩⟩⟩
def rd_T49 (xs : List S49) (i : Int) : S49 := xs.getD i.toNat z49
theorem at_T49 {w : World} {A : Option Addr} {n : Nat} {xs : List S49} (h : Kd.C k49 w A n xs) (i : Int) (h0 : 0 ≤ i) (h1 : i < n) : ∃ ad A3 c3, A = some ad ∧ w.cell? (ad.add (i.toNat * 4)) = some (.int .i64 (rd_T49 xs i).f0) ∧ w.cell? ⟨(ad.add (i.toNat * 4)).block, (ad.add (i.toNat * 4)).off + 1, none⟩ = some (.int .i64 (rd_T49 xs i).f1) ∧ w.cell? ⟨(ad.add (i.toNat * 4)).block, (ad.add (i.toNat * 4)).off + 2, none⟩ = some (.int .i64 (rd_T49 xs i).f2) ∧ w.cell? ⟨(ad.add (i.toNat * 4)).block, (ad.add (i.toNat * 4)).off + 3, none⟩ = some (.slice A3 (rd_T49 xs i).f3.length c3) ∧ (rd_T49 xs i).f3.length ≤ c3 ∧ k23.C w A3 (rd_T49 xs i).f3.length (rd_T49 xs i).f3 := by
  obtain ⟨ad, c, e, _, hK, hc0⟩ := Kd.C_get h z49 i h0 h1
  have hc : ∀ j u, c[j]? = some u → w.cell? (ad.add (i.toNat * 4 + j)) = some u := hc0
  obtain ⟨A3, c3, rfl, l3, g3⟩ := k49_open hK
  exact ⟨ad, A3, c3, e, hc 0 _ rfl, by rw [← add_field _ _ 1 (by omega)]; exact hc 1 _ rfl, by rw [← add_field _ _ 2 (by omega)]; exact hc 2 _ rfl, by rw [← add_field _ _ 3 (by omega)]; exact hc 3 _ rfl, l3, g3⟩

def rd_L4 (xs : List (List S49)) (i : Int) : (List S49) := xs.getD i.toNat ([] : List S49)
theorem at_L4 {w : World} {A : Option Addr} {n : Nat} {xs : List (List S49)} (h : Kd.C (Kd.slice 49 k49) w A n xs) (i : Int) (h0 : 0 ≤ i) (h1 : i < n) : ∃ ad A0 c0, A = some ad ∧ w.cell? (ad.add i.toNat) = some (.slice A0 (rd_L4 xs i).length c0) ∧ (rd_L4 xs i).length ≤ c0 ∧ k49.C w A0 (rd_L4 xs i).length (rd_L4 xs i) := by
  obtain ⟨ad, c, e, _, hK, hc0⟩ := Kd.C_get h ([] : List S49) i h0 h1
  have hc : ∀ j u, c[j]? = some u → w.cell? (ad.add (i.toNat * 1 + j)) = some u := hc0
  obtain ⟨A0, c0, rfl, l0, g0⟩ := hK
  exact ⟨ad, A0, c0, e, by have hq := hc 0 _ rfl; rwa [Nat.mul_one, Nat.add_zero] at hq, l0, g0⟩

def ok23 (x : S23) : Prop := (Lit.int .i64 x.f0).wf = true ∧ (Lit.int .i64 x.f1).wf = true ∧ (Lit.int .i64 x.f2).wf = true
theorem reads_S23 : Reads Try.prog 23 k23 ok23 := by
  intro H enc w fuel cs x h
  obtain ⟨xs, n, _, _, hlen, hxl, hf⟩ := DataW.trod_struct Try.underlying23 h
  have hc : cs.length = 3 := hlen.trans (by kernel_rfl)
  have h0 := hf 0 _ rfl
  obtain ⟨z0, e0⟩ := some_of hxl (i := 0) (by decide)
  rw [e0] at h0
  obtain ⟨y0, k0, o0⟩ := (reads_int Try.underlying3) H enc w n _ _ h0
  have c0 : Try.prog.cellsOf 3 = 1 := by kernel_rfl
  replace k0 : ((Kd.int .i64)).K w y0 ((cs.drop 0).take 1) := by rw [← c0]; exact k0
  have h1 := hf 1 _ rfl
  obtain ⟨z1, e1⟩ := some_of hxl (i := 1) (by decide)
  rw [e1] at h1
  obtain ⟨y1, k1, o1⟩ := (reads_int Try.underlying3) H enc w n _ _ h1
  have c1 : Try.prog.cellsOf 3 = 1 := by kernel_rfl
  replace k1 : ((Kd.int .i64)).K w y1 ((cs.drop 1).take 1) := by rw [← c1]; exact k1
  have h2 := hf 2 _ rfl
  obtain ⟨z2, e2⟩ := some_of hxl (i := 2) (by decide)
  rw [e2] at h2
  obtain ⟨y2, k2, o2⟩ := (reads_int Try.underlying3) H enc w n _ _ h2
  have c2 : Try.prog.cellsOf 3 = 1 := by kernel_rfl
  replace k2 : ((Kd.int .i64)).K w y2 ((cs.drop 2).take 1) := by rw [← c2]; exact k2
  rw [split_last (n := 2) (s := 1) hc] at k2
  exact ⟨⟨y0, y1, y2⟩, ⟨(cs.drop 0).take 1, cs.drop 1, split_at cs 0 1, k0, ⟨(cs.drop 1).take 1, cs.drop 2, split_at cs 1 1, k1, k2⟩⟩, ⟨o0, o1, o2⟩⟩
def ok49 (x : S49) : Prop := (Lit.int .i64 x.f0).wf = true ∧ (Lit.int .i64 x.f1).wf = true ∧ (Lit.int .i64 x.f2).wf = true ∧ OkAll (ok23) x.f3
theorem reads_S49 : Reads Try.prog 49 k49 ok49 := by
  intro H enc w fuel cs x h
  obtain ⟨xs, n, _, _, hlen, hxl, hf⟩ := DataW.trod_struct Try.underlying49 h
  have hc : cs.length = 4 := hlen.trans (by kernel_rfl)
  have h0 := hf 0 _ rfl
  obtain ⟨z0, e0⟩ := some_of hxl (i := 0) (by decide)
  rw [e0] at h0
  obtain ⟨y0, k0, o0⟩ := (reads_int Try.underlying3) H enc w n _ _ h0
  have c0 : Try.prog.cellsOf 3 = 1 := by kernel_rfl
  replace k0 : ((Kd.int .i64)).K w y0 ((cs.drop 0).take 1) := by rw [← c0]; exact k0
  have h1 := hf 1 _ rfl
  obtain ⟨z1, e1⟩ := some_of hxl (i := 1) (by decide)
  rw [e1] at h1
  obtain ⟨y1, k1, o1⟩ := (reads_int Try.underlying3) H enc w n _ _ h1
  have c1 : Try.prog.cellsOf 3 = 1 := by kernel_rfl
  replace k1 : ((Kd.int .i64)).K w y1 ((cs.drop 1).take 1) := by rw [← c1]; exact k1
  have h2 := hf 2 _ rfl
  obtain ⟨z2, e2⟩ := some_of hxl (i := 2) (by decide)
  rw [e2] at h2
  obtain ⟨y2, k2, o2⟩ := (reads_int Try.underlying3) H enc w n _ _ h2
  have c2 : Try.prog.cellsOf 3 = 1 := by kernel_rfl
  replace k2 : ((Kd.int .i64)).K w y2 ((cs.drop 2).take 1) := by rw [← c2]; exact k2
  have h3 := hf 3 _ rfl
  obtain ⟨z3, e3⟩ := some_of hxl (i := 3) (by decide)
  rw [e3] at h3
  obtain ⟨y3, k3, o3⟩ := (reads_slice Try.underlying37 (by kernel_rfl) reads_S23) H enc w n _ _ h3
  have c3 : Try.prog.cellsOf 37 = 1 := by kernel_rfl
  replace k3 : ((Kd.slice 23 k23)).K w y3 ((cs.drop 3).take 1) := by rw [← c3]; exact k3
  rw [split_last (n := 3) (s := 1) hc] at k3
  exact ⟨⟨y0, y1, y2, y3⟩, ⟨(cs.drop 0).take 1, cs.drop 1, split_at cs 0 1, k0, ⟨(cs.drop 1).take 1, cs.drop 2, split_at cs 1 1, k1, ⟨(cs.drop 2).take 1, cs.drop 3, split_at cs 2 1, k2, k3⟩⟩⟩, ⟨o0, o1, o2, o3⟩⟩
end Go.Proofs.Ytccidadepjcjjaa.PTableTurned
