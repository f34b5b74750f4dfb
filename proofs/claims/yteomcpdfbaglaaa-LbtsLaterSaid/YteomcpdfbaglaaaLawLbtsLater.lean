/- The row of pacelinelaw18_LbtsLater, out of its pure statement and the walk. Conditions: none beyond the form's own reach. -/
import Derived.Test.YteomcpdfbaglaaaRows
import Derived.Test.YteomcpdfbaglaaaPLbtsLaterx6
import Derived.Test.YteomcpdfbaglaaaReads
import Derived.Test.YteomcpdfbaglaaaPureLbtsLater
import Derived.WalkKit
import Derived.ProofKit
import Derived.OpenShut
import Derived.ShutString
import Derived.ChangeOld
import Derived.Below
import Derived.SizedLaws
namespace Go.Proofs.Yteomcpdfbaglaaa.lbtsLater
open Go.ChangeShapes Go.WideShapes Go.ChangeAt Go.RowKit Go.Proofs.Yteomcpdfbaglaaa.PLbtsLater Go.Proofs.YteomcpdfbaglaaaR Go.Proofs.YteomcpdfbaglaaaW.PrintWords
set_option linter.unusedVariables false
theorem own : ownKnob Try.prog.godebug = none := by kernel_rfl
theorem laidOut : laidOutB Try.prog = true := by kernel_rfl
set_option maxRecDepth 100000 in
theorem lifted (os : Os) (started : os.Started) (H : Type) (enc : TypeId × Value → H) :
    ReturnsInHanded {} Try.checked os 5 .any (Rows.lbtsLaterSpec.pre6 enc Try.prog Try.f5 Rows.lbtsLaterRow.domain false) (Rows.lbtsLaterSpec.post enc Try.prog Try.f5 false true false false) := by
  refine returnsInHanded_of_change (C := Try.checked) own started (by kernel_rfl) Try.func5
    (ChangeSpec.witness6 (enc := enc) (C := Try.checked) false ⟨#[], #[.slice none 0 0, .int .u8 0, .agg #[.int .u16 0, .int .u16 0, .int .u16 0, .int .u16 0], .bool false], []⟩ 8 (by kernel_rfl) (by kernel_rfl) (by kernel_rfl) (by kernel_rfl)) ?_
  intro W base args ds gs before hval0 hW hcnd _
  have hval : ∀ (j : Nat) t v, Try.f5.params[j]? = some t → args[j]? = some v → Value.okWide Try.prog W .any base t v := hval0
  have hW' := hW
  obtain ⟨p, q, hA0, hV, rfl, hfz, hnd⟩ := hW
  have hA : DataW.TrodAll enc Try.prog W 0 (fun _ => true) true Try.f5.params.toList args.toList ds p := hA0
  rw [Try.params5] at hA hval
  obtain ⟨v0, vs0, d0, ds0, p0, q0, hargs, rfl, rfl, h0, r0⟩ := trodAll_cons hA
  obtain ⟨v1, vs1, d1, ds1, p1, q1, rfl, rfl, rfl, h1, r1⟩ := trodAll_cons r0
  obtain ⟨v2, vs2, d2, ds2, p2, q2, rfl, rfl, rfl, h2, r2⟩ := trodAll_cons r1
  obtain ⟨v3, vs3, d3, ds3, p3, q3, rfl, rfl, rfl, h3, r3⟩ := trodAll_cons r2
  obtain ⟨rfl, rfl, rfl⟩ := trodAll_nil r3
  obtain rfl : args = #[v0, v1, v2, v3] := by cases args; simp_all
  obtain ⟨rfl, rfl⟩ := trodVars_none hV
  have k0 := h0
  have lt0 : ∀ x ∈ p0, x.block < W.heap.size := by obtain ⟨m, hm⟩ := k0; exact DataW.trod_lt m _ _ _ hm
  obtain ⟨b0, m0, n0, e0⟩ := okWide_slice Try.underlying22 (hval 0 22 v0 rfl rfl)
  obtain ⟨A0, c0, l0, rfl, hr0, hc0, w0⟩ := open_slice_arg (reads_slice Try.underlying22 (by kernel_rfl) reads_S30) e0 h0
  obtain ⟨a1, rfl, rfl, rfl, w1⟩ := open_int Try.underlying5 (hval 1 5 v1 rfl rfl) h1
  have k2 := h2
  have lt2 : ∀ x ∈ p2, x.block < W.heap.size := by obtain ⟨m, hm⟩ := k2; exact DataW.trod_lt m _ _ _ hm
  obtain ⟨s2, y2, rfl, x2, w2⟩ : ∃ (cs : List Value) (y : S38), v2 = .agg cs.toArray ∧ k38.K W y cs ∧ ok38 y := by
    have hv_ := hval 2 38 v2 rfl rfl
    simp only [Value.okWide, Try.underlying38] at hv_
    obtain ⟨cs, rfl, _⟩ := hv_
    obtain ⟨fuel, hf⟩ := h2
    obtain ⟨y, hk, hok⟩ := reads_S38 _ _ _ fuel _ _ hf
    exact ⟨cs.toList, y, by simp, by simpa [Value.cells] using hk, hok⟩
  obtain rfl := k38_open x2
  obtain ⟨w2_0, w2_1, w2_2, w2_3⟩ := w2
  obtain ⟨a3, rfl, rfl, rfl⟩ := open_bool Try.underlying4 (hval 3 4 v3 rfl rfl) h3
  clear hA0 hval0
  obtain ⟨k, hP⟩ := Pure.LbtsLater l0 a1 y2.f0 y2.f1 y2.f2 y2.f3 a3 w0 w1 w2_0 w2_1 w2_2 w2_3
  refine (pacelinelaw18_LbtsLater.calls k _ _ _ _ _ _ _ _ _ true W hr0 hc0 hP).mono fun e W' ⟨he, bel0⟩ => ?_
  have bel : Below W.heap.size W W' := bel0
  subst he
  exact ⟨_, rfl, _, _, _, [], _, [], hW', trodAll_mk1 (shut_bool Try.underlying4 _), (trodAll_cons_mk (Below.trod laidOut (by kernel_rfl) (of_decide_eq_true (by kernel_rfl)) k0 bel lt0) (trodAll_cons_mk (shut_int Try.underlying5 w1) (trodAll_cons_mk (Below.trod laidOut (by kernel_rfl) (of_decide_eq_true (by kernel_rfl)) k2 bel lt2) (trodAll_cons_mk (shut_bool Try.underlying4 _) trodAll_mk0)))), rfl, bel.frame _, fun h => by cases h⟩
theorem over : Rows.lbtsLaterRow.holds Try.pinned (OpenSpec.ofChange Rows.lbtsLaterSpec) :=
  OpenClaim.holds_of_wide 5 Try.f5 rfl rfl rfl rfl rfl rfl rfl ⟨rfl, rfl, rfl, rfl, rfl⟩ rfl rfl rfl rfl rfl (by kernel_rfl) Try.func5 (by kernel_rfl)
    (of_decide_eq_true (by kernel_rfl)) (by unfold Func.isWrapper; first | (rw [if_pos (by decide +kernel)]; kernel_rfl) | (rw [if_neg (by decide +kernel)]; exact ⟨rfl, rfl⟩))
    (fun os started H enc _ => lifted os started H enc)
theorem proved : Rows.LbtsLaterSaid := over
#print axioms proved
end Go.Proofs.Yteomcpdfbaglaaa.lbtsLater
namespace Go.Proofs.Yteomcpdfbaglaaa
/-- The row, under a short name, for the claim. -/
theorem lbtsLater_holds : Rows.LbtsLaterSaid := lbtsLater.proved
end Go.Proofs.Yteomcpdfbaglaaa
