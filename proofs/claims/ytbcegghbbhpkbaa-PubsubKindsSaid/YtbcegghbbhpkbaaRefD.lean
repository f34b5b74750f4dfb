/- New of the document's own table; Route's other answers. -/
import Derived.Test.YtbcegghbbhpkbaaRefC
namespace Go.Proofs.YtbcegghbbhpkbaaT
open Go.RowKit Go.Proofs.YtbcegghbbhpkbaaW.PrintWords Go.Proofs.YtbcegghbbhpkbaaW.PrintLast Go.Proofs.YtbcegghbbhpkbaaW.PrintMore Go.Proofs.YtbcegghbbhpkbaaU Go.Proofs.Ytbcegghbbhpkbaa.PBase Go.Proofs.YtbcegghbbhpkbaaH
set_option linter.unusedVariables false
set_option linter.unusedSimpArgs false
set_option maxHeartbeats 4000000 in
theorem rroute_calls {V : Nat → Prop} {w : World} {b g h : Nat} {ps : List Int} {Lp Ls : List (List Int)} (H : RTab V w b g h ps Lp Ls) (hbp : ∀ l ∈ Lp, l.length ≤ 1000) (hb : ∀ l ∈ Ls, l.length ≤ 1000) (f c : Int) :
    Calls Try.prog 21 #[.pointer (some ⟨b, 0, none⟩), .int .i64 f, .int .i64 c] w (RouteC w (rrouteE ps.length Lp f c) (if rrouteE ps.length Lp f c = 0 then rrouteL ps Ls f c else [])) := by
  by_cases he : errT ps.length f c = 0
  · by_cases hq : rpubB ps.length Lp f c = true
    · have hr : rrouteE ps.length Lp f c = 0 := by unfold rrouteE; rw [if_pos he, if_pos hq]
      rw [hr, if_pos rfl]
      obtain ⟨F, C, rfl, rfl, hF, hC⟩ := errT_inv he
      exact rroute_calls_ok H hbp hb F C hF hC hq
    · have hr : rrouteE ps.length Lp f c = 211 := by unfold rrouteE; rw [if_pos he, if_neg hq]
      rw [hr, if_neg (by decide)]
      have C1 := Aside0.mk (rcheck_calls H f c)
      have C2 := Aside0.mk (rpublishes_calls H hbp f c)
      rw [he] at C1
      rw [Bool.eq_false_iff.mpr hq] at C2
      clear H he hbp hb hr hq
      go_enter Try.func21, Try.ntmps21
      go_wp2_with (first | (go_at_call 28; refine C1.out.mono ?_; rintro e w' ⟨rfl, rfl⟩) | (go_at_call 23; refine C2.out.mono ?_; rintro e w1 ⟨rfl, hd⟩; have HB1 := Aside0.mk hd; clear hd))
      go_ret2
      exact ⟨_, rfl, Kd.R_nil _ _ _ _ _, HB1.out⟩
  · have hr : rrouteE ps.length Lp f c = errT ps.length f c := by unfold rrouteE; rw [if_neg he]
    rw [hr, if_neg he]
    have C1 := Aside0.mk (rcheck_calls H f c)
    have e1 : (errT ps.length f c != 0) = true := bne_iff_ne.mpr he
    generalize errT ps.length f c = r at C1 e1
    clear H he hr hbp hb
    go_enter Try.func21, Try.ntmps21
    go_wp2_with (go_at_call 28; refine C1.out.mono ?_; rintro e w' ⟨rfl, rfl⟩)
    go_ret2
    exact ⟨_, rfl, Kd.R_nil _ _ _ _ _, Below.refl _ _⟩
theorem three (w1 : World) (o1 o2 o3 : Obj) : ((((w1.alloc o1).alloc o2).alloc o3).drew).heap[w1.heap.size]? = some o1 ∧ ((((w1.alloc o1).alloc o2).alloc o3).drew).heap[w1.heap.size + 1]? = some o2 ∧ ((((w1.alloc o1).alloc o2).alloc o3).drew).heap[w1.heap.size + 1 + 1]? = some o3 ∧
    Below w1.heap.size w1 (((w1.alloc o1).alloc o2).alloc o3).drew ∧ (((w1.alloc o1).alloc o2).alloc o3).drew.heap.size = w1.heap.size + 1 + 1 + 1 :=
  ⟨blk_drew (blk_alloc (blk_alloc (blk_new w1 o1) _) _), blk_drew (blk_alloc (by simpa using blk_new (w1.alloc o1) o2) _), blk_drew (by simpa using blk_new ((w1.alloc o1).alloc o2) o3),
    below_drew (below_alloc (below_alloc (below_alloc (Below.refl _ _) _) _) _), show (((w1.alloc o1).alloc o2).alloc o3).heap.size = w1.heap.size + 1 + 1 + 1 from by simp⟩
theorem made8 : madeCells #[Value.slice none 0 0] 8 = (List.replicate 8 (Value.slice none 0 0)).toArray := by kernel_rfl
theorem nils (V : Nat → Prop) (w : World) : ∀ (f : Nat) (v : Value) (l : List Int), (List.replicate 8 (Value.slice none 0 0))[f]? = some v → (List.replicate 8 ([] : List Int))[f]? = some l → LAt V w v l := fun f v l h1 h2 => by
  rw [List.eq_of_mem_replicate (List.mem_of_getElem? h1), List.eq_of_mem_replicate (List.mem_of_getElem? h2)]
  exact LAt.nil V w
/-- New's answer; U: what the caller keeps apart, too. -/
def RNewP (U : Nat → Prop) (w : World) (l0 : List Int) (e : Ending) (w' : World) : Prop :=
  ∃ b g h, e = .returned (.tuple #[.pointer (some ⟨b, 0, none⟩), .int .i64 0]) ∧ RTab (fun k => k = b ∨ k = g ∨ k = h ∨ U k) w' b g h l0 (List.replicate 8 []) (List.replicate 8 []) ∧ Below w.heap.size w w' ∧ w.heap.size ≤ b ∧ w.heap.size ≤ g ∧ w.heap.size ≤ h
set_option maxHeartbeats 1000000 in
theorem rnew_calls_no (A0 : Option Addr) (c0 : Nat) (l0 : List Int) (w : World) (hr0 : Kd.C (Kd.int .i64) w A0 l0.length l0) (hc0 : l0.length ≤ c0) (ht : ¬ Tree l0) :
    Calls Try.prog 9 #[.slice A0 l0.length c0] w fun e w' => e = .returned (.tuple #[.pointer none, .int .i64 50]) ∧ Below w.heap.size w w' := by
  have CK := Aside0.mk (pacelineref05_Check.calls 18 A0 c0 l0 50 w hr0 hc0 ((rck l0 18 (Nat.le_refl _)).trans (by rw [if_neg (fun h => ht (treeB_iff.mp h))])))
  clear hr0 hc0 ht
  go_enter Try.func9, Try.ntmps9
  go_wp2_with (go_at_call 25; refine CK.out.mono ?_; rintro e w1 ⟨rfl, hd⟩; have HD := Aside0.mk hd.below; clear hd)
  go_ret2
  exact ⟨rfl, HD.out⟩
set_option maxHeartbeats 1000000 in
theorem rnew_calls_ok (U : Nat → Prop) (A0 : Option Addr) (c0 : Nat) (l0 : List Int) (w : World) (hU : ∀ k, U k → k < w.heap.size) (hr0 : Kd.C (Kd.int .i64) w A0 l0.length l0) (hc0 : l0.length ≤ c0) (ht : Tree l0) :
    Calls Try.prog 9 #[.slice A0 l0.length c0] w (RNewP U w l0) := by
  have HR := Aside0.mk hr0
  have CK := Aside0.mk (pacelineref05_Check.calls 18 A0 c0 l0 0 w hr0 hc0 ((rck l0 18 (Nat.le_refl _)).trans (by rw [if_pos (treeB_iff.mpr ht)])))
  have h16 : l0.length ≤ 16 := ht.2.1
  have HU := Aside0.mk hU
  clear hr0 hc0 ht hU
  go_enter Try.func9, Try.ntmps9
  go_wp2_with (go_at_call 25; refine CK.out.mono ?_; rintro e w1 ⟨rfl, hd⟩; have HD := Aside0.mk hd.below; clear hd)
  have hmk : ∀ W : World, (Instr.makeSlice 52 (.int .i64 8) (.int .i64 8)).run Try.prog W = .ok (.slice (some ⟨W.heap.size, 0, none⟩) 8 8) (W.alloc (.cells (madeCells #[.slice none 0 0] 8) 23)) := fun W => run_make_row' 52 23 (.slice none 0 0) 24 Try.underlying52 (by kernel_rfl) rfl .i64 .i64 8 (by decide) (by decide) W
  go_region
  · obtain ⟨K1, K2, K3, KB, KS⟩ := three w1 (.cells (madeCells #[.slice none 0 0] 8) 23 (0, 0)) (.cells (madeCells #[.slice none 0 0] 8) 23 (0, 0)) (.cells #[.slice none 0 0, .slice (some ⟨w1.heap.size, 0, none⟩) 8 8, .slice (some ⟨w1.heap.size + 1, 0, none⟩) 8 8] 54 (0, 0))
    generalize ((((w1.alloc (.cells (madeCells #[.slice none 0 0] 8) 23 (0, 0))).alloc (.cells (madeCells #[.slice none 0 0] 8) 23 (0, 0))).alloc (.cells #[.slice none 0 0, .slice (some ⟨w1.heap.size, 0, none⟩) 8 8, .slice (some ⟨w1.heap.size + 1, 0, none⟩) 8 8] 54 (0, 0))).drew) = W at K1 K2 K3 KB KS ⊢
    have HB := Aside0.mk (below_step HD.out KB)
    have HZ := Aside0.mk HD.out.size
    have HS := Aside0.mk KS
    have G1 := Aside0.mk K1
    have G2 := Aside0.mk K2
    have G3 := Aside0.mk K3
    have cb := (blk_cell K3 0).trans rfl
    clear K1 K2 K3 KB KS HD CK hmk
    generalize w1.heap.size = n at HZ HS G1 G2 G3 cb ⊢
    go_wp2_with ((with_reducible refine gate_builtin (b := .append) (xs := #[.tmp 19, .tmp 20]) rfl ?_); at_builtin; refine Kd.R_append_rows (Kd.int .i64) (Rr := (Kd.int .i64).K W) (w0 := W) W.heap.size rfl (.tmp 19) (.tmp 20) 23 3 (.int .i64 0) 8 rfl Try.underlying23 info_int rfl (by decide) (by omega) (.slice none 0 0) [] l0 A0 l0.length c0 (fun _ => True) (fun _ => False) rfl rfl (Kd.R_nil _ _ _ _ _) (Kd.C_below HR.out HB.out) (fun _ _ h => h) (fun _ h => h.elim) (fun _ _ => trivial) (Below.refl _ _) (Nat.le_refl _) ?aL ?_; (case aL => simp; omega); intro v1 w2 ho hb hg hat; clear hg hat; obtain ⟨A1, k1, rfl⟩ := Kd.R_slice ho; have HO2 := Aside0.mk ho; have HB2 := Aside0.mk hb; clear ho hb; have GB := Aside0.mk (blk_below G3.out HB2.out); have cb2 := (blk_cell GB.out 0).trans rfl; have zb2 := blk_frozen GB.out 0)
    go_ret2
    have hVn : ∀ k, (k = n + 1 + 1 ∨ k = n ∨ k = n + 1 ∨ U k) → k < W.heap.size := fun k hk => by
      rw [HS.out]
      rcases hk with rfl | rfl | rfl | hk
      · omega
      · omega
      · omega
      · have := HU.out k hk
        have := HZ.out
        omega
    have hbut := But.set (S := fun k => k = n + 1 + 1) (But.refl _ w2) (p := ⟨n + 1 + 1, 0, none⟩) rfl (.slice A1 ([] ++ l0).length k1)
    refine ⟨n + 1 + 1, n, n + 1, rfl, ⟨⟨_, blk_put GB.out 0 _ rfl, (LAt.of_R HO2.out hVn).but hbut (fun k hk => Or.inl hk)⟩, ⟨_, List.length_replicate, hbut.blk (blk_below (made8 ▸ G1.out) HB2.out) (by omega), nils _ _⟩, ⟨_, List.length_replicate, hbut.blk (blk_below (made8 ▸ G2.out) HB2.out) (by omega), nils _ _⟩, List.length_replicate, List.length_replicate, ⟨by omega, by omega, by omega⟩, ⟨Or.inl rfl, Or.inr (Or.inl rfl), Or.inr (Or.inr (Or.inl rfl))⟩, fun k hk => Nat.lt_of_lt_of_le (hVn k hk) (by have := HB2.out.size; simpa [World.setCell] using this)⟩, ?_, ?_, ?_, ?_⟩
    · exact (below_step HB.out HB2.out).setCell (p := ⟨n + 1 + 1, 0, none⟩) (by have := HZ.out; show w.heap.size ≤ n + 1 + 1; omega) _
    · have := HZ.out; omega
    · have := HZ.out; omega
    · have := HZ.out; omega
  · obtain ⟨K1, K2, K3, KB, KS⟩ := three w1 (.cells (madeCells #[.slice none 0 0] 8) 23 (0, 0)) (.cells (madeCells #[.slice none 0 0] 8) 23 (0, 0)) (.cells #[.slice none 0 0, .slice (some ⟨w1.heap.size + 1, 0, none⟩) 8 8, .slice (some ⟨w1.heap.size, 0, none⟩) 8 8] 54 (0, 0))
    generalize ((((w1.alloc (.cells (madeCells #[.slice none 0 0] 8) 23 (0, 0))).alloc (.cells (madeCells #[.slice none 0 0] 8) 23 (0, 0))).alloc (.cells #[.slice none 0 0, .slice (some ⟨w1.heap.size + 1, 0, none⟩) 8 8, .slice (some ⟨w1.heap.size, 0, none⟩) 8 8] 54 (0, 0))).drew) = W at K1 K2 K3 KB KS ⊢
    have HB := Aside0.mk (below_step HD.out KB)
    have HZ := Aside0.mk HD.out.size
    have HS := Aside0.mk KS
    have G1 := Aside0.mk K1
    have G2 := Aside0.mk K2
    have G3 := Aside0.mk K3
    have cb := (blk_cell K3 0).trans rfl
    clear K1 K2 K3 KB KS HD CK hmk
    generalize w1.heap.size = n at HZ HS G1 G2 G3 cb ⊢
    go_wp2_with ((with_reducible refine gate_builtin (b := .append) (xs := #[.tmp 19, .tmp 20]) rfl ?_); at_builtin; refine Kd.R_append_rows (Kd.int .i64) (Rr := (Kd.int .i64).K W) (w0 := W) W.heap.size rfl (.tmp 19) (.tmp 20) 23 3 (.int .i64 0) 8 rfl Try.underlying23 info_int rfl (by decide) (by omega) (.slice none 0 0) [] l0 A0 l0.length c0 (fun _ => True) (fun _ => False) rfl rfl (Kd.R_nil _ _ _ _ _) (Kd.C_below HR.out HB.out) (fun _ _ h => h) (fun _ h => h.elim) (fun _ _ => trivial) (Below.refl _ _) (Nat.le_refl _) ?aL ?_; (case aL => simp; omega); intro v1 w2 ho hb hg hat; clear hg hat; obtain ⟨A1, k1, rfl⟩ := Kd.R_slice ho; have HO2 := Aside0.mk ho; have HB2 := Aside0.mk hb; clear ho hb; have GB := Aside0.mk (blk_below G3.out HB2.out); have cb2 := (blk_cell GB.out 0).trans rfl; have zb2 := blk_frozen GB.out 0)
    go_ret2
    have hVn : ∀ k, (k = n + 1 + 1 ∨ k = n + 1 ∨ k = n ∨ U k) → k < W.heap.size := fun k hk => by
      rw [HS.out]
      rcases hk with rfl | rfl | rfl | hk
      · omega
      · omega
      · omega
      · have := HU.out k hk
        have := HZ.out
        omega
    have hbut := But.set (S := fun k => k = n + 1 + 1) (But.refl _ w2) (p := ⟨n + 1 + 1, 0, none⟩) rfl (.slice A1 ([] ++ l0).length k1)
    refine ⟨n + 1 + 1, n + 1, n, rfl, ⟨⟨_, blk_put GB.out 0 _ rfl, (LAt.of_R HO2.out hVn).but hbut (fun k hk => Or.inl hk)⟩, ⟨_, List.length_replicate, hbut.blk (blk_below (made8 ▸ G2.out) HB2.out) (by omega), nils _ _⟩, ⟨_, List.length_replicate, hbut.blk (blk_below (made8 ▸ G1.out) HB2.out) (by omega), nils _ _⟩, List.length_replicate, List.length_replicate, ⟨by omega, by omega, by omega⟩, ⟨Or.inl rfl, Or.inr (Or.inl rfl), Or.inr (Or.inr (Or.inl rfl))⟩, fun k hk => Nat.lt_of_lt_of_le (hVn k hk) (by have := HB2.out.size; simpa [World.setCell] using this)⟩, ?_, ?_, ?_, ?_⟩
    · exact (below_step HB.out HB2.out).setCell (p := ⟨n + 1 + 1, 0, none⟩) (by have := HZ.out; show w.heap.size ≤ n + 1 + 1; omega) _
    · have := HZ.out; omega
    · have := HZ.out; omega
    · have := HZ.out; omega
end Go.Proofs.YtbcegghbbhpkbaaT
