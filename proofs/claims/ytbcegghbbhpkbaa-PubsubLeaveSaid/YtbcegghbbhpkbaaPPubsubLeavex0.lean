-- Written by gp.py (this project's driver over the kit's print) out of the translation and wip/given; Lean checks it.
import Derived.Test.YtbcegghbbhpkbaaProg
import Derived.Below
import Derived.Deep.Draws
import Derived.Deep.AppendLies
import Derived.Maps.AppendAt
import Derived.OwnWalk
import Derived.Laws.BytesArg
import Derived.Laws.MakeOwn
import Derived.Laws.OwnMore
import Derived.Deep.OwnRows
import Derived.Tactics
import Derived.Lib.ConvBytes
import Derived.Laws.Slices
import Derived.WalkKit
import Derived.KernelRfl
import Derived.RowKit3
import Derived.Deep.LoopGhost
import Derived.Deep.QuietTactic
import Derived.BigQuiet
import Derived.WideLaws
import Derived.Deep.DeepCutAuto
import Derived.Deep.CutBlock
import Derived.Deep.RegionHeld3
import Derived.Laws.Rows
import Derived.Lib.AppendStr
import Derived.ArgAppend
import Derived.Laws.IdiomCopy
import Derived.OrdersHeld
import Derived.Laws.BitsLemmas
import Derived.RowKit
import Derived.Test.YtbcegghbbhpkbaaLeft
import Derived.StillTailTactics
import Derived.Test.YtbcegghbbhpkbaaReads
import Derived.Test.YtbcegghbbhpkbaaWWords
import Derived.Test.YtbcegghbbhpkbaaWLast
import Derived.Test.YtbcegghbbhpkbaaWTab
import Derived.Test.YtbcegghbbhpkbaaWFour
import Derived.Test.YtbcegghbbhpkbaaWQPut
import Derived.Test.YtbcegghbbhpkbaaWApart
import Derived.Test.YtbcegghbbhpkbaaWArr
import Derived.Test.YtbcegghbbhpkbaaWZeros
import Derived.Test.YtbcegghbbhpkbaaWFoot
import Derived.Test.YtbcegghbbhpkbaaWKept
import Derived.Test.YtbcegghbbhpkbaaWShare
import Derived.Test.YtbcegghbbhpkbaaWN
import Derived.Test.YtbcegghbbhpkbaaWFootNe
import Derived.Test.YtbcegghbbhpkbaaWAt
import Derived.Test.YtbcegghbbhpkbaaWEqStruct
import Derived.Test.YtbcegghbbhpkbaaWRepsOne
import Derived.Test.YtbcegghbbhpkbaaWInv
import Derived.Test.YtbcegghbbhpkbaaWInvWords
import Derived.Test.YtbcegghbbhpkbaaWGuard
import Derived.Test.YtbcegghbbhpkbaaWNEv
import Derived.Test.YtbcegghbbhpkbaaWMore
namespace Go.Proofs.Ytbcegghbbhpkbaa.PPubsubLeave
open Go.RowKit Go.Proofs.YtbcegghbbhpkbaaR Go.Proofs.YtbcegghbbhpkbaaW.PrintWords Go.Proofs.YtbcegghbbhpkbaaW.PrintLast Go.Proofs.YtbcegghbbhpkbaaW.PrintMore
attribute [local go_sem] max2_int min2_int max_two min_two max_three min_three max_four min_four   -- for this text's walks alone
set_option linter.unusedVariables false
set_option linter.unusedSimpArgs false



def errW : Option Int → Value
  | none => .nilIface
  | some c => .iface 0 (.int .i64 c)
theorem errW_none : errW none = .nilIface := rfl
theorem errW_some (c : Int) : errW (some c) = .iface 0 (.int .i64 c) := rfl

theorem info38 : (Try.prog.info? 38).map (fun i => (i.zero, i.size, i.bytes)) = some (some (.agg #[(.int .i64 0), (.int .i64 0), (.int .i64 0), (.bool false)]), 4, 32) := by kernel_rfl
-- the values' own types
/-! #### struct type 38 -/
structure S38 where
  f0 : Int
  f1 : Int
  f2 : Int
  f3 : Bool
def z38 : S38 := ⟨(0 : Int), (0 : Int), (0 : Int), false⟩
def k38 : Kd S38 := Kd.iso (Kd.pair (Kd.int .i64) (Kd.pair (Kd.int .i64) (Kd.pair (Kd.int .i64) Kd.bool))) (fun x : S38 => (x.f0, x.f1, x.f2, x.f3))
theorem k38_open {w : World} {x : S38} {cs : List Value} (h : k38.K w x cs) : cs = [.int .i64 x.f0, .int .i64 x.f1, .int .i64 x.f2, .bool x.f3] := by
  obtain ⟨_, _, rfl, rfl, ⟨_, _, rfl, rfl, ⟨_, _, rfl, rfl, rfl⟩⟩⟩ := h
  exact rfl
theorem k38_openM {w : World} {base : Nat} {ok : Nat → Prop} {x : S38} {cs : List Value} (h : k38.M w base ok x cs) : cs = [.int .i64 x.f0, .int .i64 x.f1, .int .i64 x.f2, .bool x.f3] := by
  obtain ⟨_, _, rfl, rfl, ⟨_, _, rfl, rfl, ⟨_, _, rfl, rfl, rfl⟩⟩⟩ := h
  exact rfl
theorem k38_mk (w : World) (x : S38)  : k38.K w x [.int .i64 x.f0, .int .i64 x.f1, .int .i64 x.f2, .bool x.f3] := ⟨[.int .i64 x.f0], [.int .i64 x.f1, .int .i64 x.f2, .bool x.f3], rfl, rfl, ⟨[.int .i64 x.f1], [.int .i64 x.f2, .bool x.f3], rfl, rfl, ⟨[.int .i64 x.f2], [.bool x.f3], rfl, rfl, rfl⟩⟩⟩
theorem k38_mkM (w : World) (base : Nat) (ok : Nat → Prop) (x : S38)  : k38.M w base ok x [.int .i64 x.f0, .int .i64 x.f1, .int .i64 x.f2, .bool x.f3] := ⟨[.int .i64 x.f0], [.int .i64 x.f1, .int .i64 x.f2, .bool x.f3], rfl, rfl, ⟨[.int .i64 x.f1], [.int .i64 x.f2, .bool x.f3], rfl, rfl, ⟨[.int .i64 x.f2], [.bool x.f3], rfl, rfl, rfl⟩⟩⟩
def rd_T38 (xs : List S38) (i : Int) : S38 := xs.getD i.toNat z38
theorem at_T38 {w : World} {A : Option Addr} {n : Nat} {xs : List S38} (h : Kd.C k38 w A n xs) (i : Int) (h0 : 0 ≤ i) (h1 : i < n) : ∃ ad , A = some ad ∧ w.cell? (ad.add (i.toNat * 4)) = some (.int .i64 (rd_T38 xs i).f0) ∧ w.cell? ⟨(ad.add (i.toNat * 4)).block, (ad.add (i.toNat * 4)).off + 1, none⟩ = some (.int .i64 (rd_T38 xs i).f1) ∧ w.cell? ⟨(ad.add (i.toNat * 4)).block, (ad.add (i.toNat * 4)).off + 2, none⟩ = some (.int .i64 (rd_T38 xs i).f2) ∧ w.cell? ⟨(ad.add (i.toNat * 4)).block, (ad.add (i.toNat * 4)).off + 3, none⟩ = some (.bool (rd_T38 xs i).f3) := by
  obtain ⟨ad, c, e, _, hK, hc0⟩ := Kd.C_get h z38 i h0 h1
  have hc : ∀ j u, c[j]? = some u → w.cell? (ad.add (i.toNat * 4 + j)) = some u := hc0
  obtain rfl := k38_open hK
  exact ⟨ad, e, hc 0 _ rfl, by rw [← add_field _ _ 1 (by omega)]; exact hc 1 _ rfl, by rw [← add_field _ _ 2 (by omega)]; exact hc 2 _ rfl, by rw [← add_field _ _ 3 (by omega)]; exact hc 3 _ rfl⟩

def rd_L3 (xs : List (List S38)) (i : Int) : (List S38) := xs.getD i.toNat ([] : List S38)
theorem at_L3 {w : World} {A : Option Addr} {n : Nat} {xs : List (List S38)} (h : Kd.C (Kd.slice 38 k38) w A n xs) (i : Int) (h0 : 0 ≤ i) (h1 : i < n) : ∃ ad A0 c0, A = some ad ∧ w.cell? (ad.add i.toNat) = some (.slice A0 (rd_L3 xs i).length c0) ∧ (rd_L3 xs i).length ≤ c0 ∧ k38.C w A0 (rd_L3 xs i).length (rd_L3 xs i) := by
  obtain ⟨ad, c, e, _, hK, hc0⟩ := Kd.C_get h ([] : List S38) i h0 h1
  have hc : ∀ j u, c[j]? = some u → w.cell? (ad.add (i.toNat * 1 + j)) = some u := hc0
  obtain ⟨A0, c0, rfl, l0, g0⟩ := hK
  exact ⟨ad, A0, c0, e, by have hq := hc 0 _ rfl; rwa [Nat.mul_one, Nat.add_zero] at hq, l0, g0⟩

def ok38 (x : S38) : Prop := (Lit.int .i64 x.f0).wf = true ∧ (Lit.int .i64 x.f1).wf = true ∧ (Lit.int .i64 x.f2).wf = true ∧ True
theorem reads_S38 : Reads Try.prog 38 k38 ok38 := by
  intro H enc w fuel cs x h
  obtain ⟨xs, n, _, _, hlen, hxl, hf⟩ := DataW.trod_struct Try.underlying38 h
  have hc : cs.length = 4 := hlen.trans (by kernel_rfl)
  have h0 := hf 0 _ rfl
  obtain ⟨z0, e0⟩ := some_of hxl (i := 0) (by decide)
  rw [e0] at h0
  obtain ⟨y0, k0, o0⟩ := (reads_int Try.underlying3) H enc w n _ _ h0
  have c0 : Try.prog.cellsOf 3 = 1 := by kernel_rfl
  replace k0 : ((Kd.int .i64)).K w y0 ((cs.drop 0).take 1) := by rw [← c0]; exact k0
  have h1 := hf 1 _ rfl
  obtain ⟨z1, e1⟩ := some_of hxl (i := 1) (by decide)
  rw [e1] at h1
  obtain ⟨y1, k1, o1⟩ := (reads_int Try.underlying3) H enc w n _ _ h1
  have c1 : Try.prog.cellsOf 3 = 1 := by kernel_rfl
  replace k1 : ((Kd.int .i64)).K w y1 ((cs.drop 1).take 1) := by rw [← c1]; exact k1
  have h2 := hf 2 _ rfl
  obtain ⟨z2, e2⟩ := some_of hxl (i := 2) (by decide)
  rw [e2] at h2
  obtain ⟨y2, k2, o2⟩ := (reads_int Try.underlying3) H enc w n _ _ h2
  have c2 : Try.prog.cellsOf 3 = 1 := by kernel_rfl
  replace k2 : ((Kd.int .i64)).K w y2 ((cs.drop 2).take 1) := by rw [← c2]; exact k2
  have h3 := hf 3 _ rfl
  obtain ⟨z3, e3⟩ := some_of hxl (i := 3) (by decide)
  rw [e3] at h3
  obtain ⟨y3, k3, o3⟩ := (reads_bool Try.underlying4) H enc w n _ _ h3
  have c3 : Try.prog.cellsOf 4 = 1 := by kernel_rfl
  replace k3 : (Kd.bool).K w y3 ((cs.drop 3).take 1) := by rw [← c3]; exact k3
  rw [split_last (n := 3) (s := 1) hc] at k3
  exact ⟨⟨y0, y1, y2, y3⟩, ⟨(cs.drop 0).take 1, cs.drop 1, split_at cs 0 1, k0, ⟨(cs.drop 1).take 1, cs.drop 2, split_at cs 1 1, k1, ⟨(cs.drop 2).take 1, cs.drop 3, split_at cs 2 1, k2, k3⟩⟩⟩, ⟨o0, o1, o2, o3⟩⟩
end Go.Proofs.Ytbcegghbbhpkbaa.PPubsubLeave
