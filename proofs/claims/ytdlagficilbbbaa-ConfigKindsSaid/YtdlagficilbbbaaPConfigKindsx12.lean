-- Written by gp.py (this project's driver over the kit's print) out of the translation and wip/given; Lean checks it.
import Derived.Test.YtdlagficilbbbaaPConfigKindsx0
import Derived.Test.YtdlagficilbbbaaPConfigKindsx2
import Derived.Test.YtdlagficilbbbaaPConfigKindsx4
import Derived.Test.YtdlagficilbbbaaPConfigKindsx10
import Derived.Test.YtdlagficilbbbaaPConfigKindsx11
namespace Go.Proofs.Ytdlagficilbbbaa.PConfigKinds
open Go.RowKit Go.Proofs.YtdlagficilbbbaaR Go.Proofs.YtdlagficilbbbaaW.PrintWords Go.Proofs.YtdlagficilbbbaaW.PrintLast Go.Proofs.YtdlagficilbbbaaW.PrintMore
attribute [local go_sem] max2_int min2_int max_two min_two max_three min_three max_four min_four   -- for this text's walks alone
set_option linter.unusedVariables false
set_option linter.unusedSimpArgs false

/-! ### pacelinelaw08_ConfigKinds: function 7 (by hand) -/
/-- Elements as they lay in the world w0. -/
def ckFrozen {α : Type} (d : Kd α) (w0 : World) : Kd α where
  sz := d.sz
  E := []
  K := fun _ x cs => d.K w0 x cs
  M := fun _ _ _ x cs => d.K w0 x cs
  K_len := d.K_len
  K_one := d.K_one
  K_below := fun _ h => h
  K_of_M := fun h => h
  M_mono := fun _ h => h
  M_bound := fun h => h
  M_move := fun _ h => h
  M_lower := fun _ h => h
theorem ckThaw {α : Type} {d : Kd α} {w0 w : World} {A : Option Addr} {n : Nat} {xs : List α} (h : (ckFrozen d w0).C w A n xs) (hb : Below w0.heap.size w0 w) : d.C w A n xs :=
  ReadsRow.imp_ h (Below.refl _ _) (fun _ _ hp => d.K_below hb hp)
/-- A row that lies above a block: a store into that block leaves it. -/
theorem ckFar {α : Type} {d : Kd α} {e base : Nat} {w : World} {v : Value} {xs : List α} (h : d.R e w base (fun _ => True) v xs) {p : Addr} (hp : p.block < base) (u : Value) : d.R e (w.setCell p u) base (fun _ => True) v xs :=
  Kd.R_mono (Kd.R_step (Kd.R_bound h) (fun k hk _ => Below.heap_setCell w p u k (by have := hk.2.1; omega))) (fun _ _ => trivial)
theorem ckKeeps {α : Type} {d : Kd α} {e base : Nat} {w w1 : World} {v : Value} {xs : List α} (h : d.R e w base (fun _ => True) v xs) (hb : Below w.heap.size w w1) : d.R e w1 base (fun _ => True) v xs := Kd.R_step h (fun k _ hlt => hb.block k hlt)
theorem ckCells {α : Type} {d : Kd α} {w : World} {A : Option Addr} {l : List α} (h : d.C w A l.length l) {k : Nat} {x : α} (hx : l[k]? = some x) :
    ∃ ad c, A = some ad ∧ c.length = d.sz ∧ d.K w x c ∧ ∀ i u, c[i]? = some u → w.cell? (ad.add (k * d.sz + i)) = some u := by
  obtain ⟨hk, _⟩ := List.getElem?_eq_some_iff.1 hx
  obtain ⟨ad, rfl, hc⟩ := h.2.2 (by omega)
  obtain ⟨c, h1, h2, h3⟩ := hc k x hx
  exact ⟨ad, c, rfl, h1, h2, h3⟩
def ckKind (ks : List Bool) (i : Nat) : Int := if ks.getD i false = true then 1 else 0
def ckTurned (ks : List Bool) (i : Nat) (x : S42) : S42 := ⟨ckKind ks i, x.f1, x.f2, x.f3, x.f4, x.f5, x.f6⟩
/-- The first n federates, with kinds of ks. -/
def ckTurnedL (l1 : List S42) (ks : List Bool) : Nat → List S42
  | 0 => []
  | n + 1 => ckTurnedL l1 ks n ++ [ckTurned ks n (l1.getD n z42)]
theorem ckTurnedL_len (l1 : List S42) (ks : List Bool) : ∀ n, (ckTurnedL l1 ks n).length = n
  | 0 => rfl
  | n + 1 => by simp [ckTurnedL, ckTurnedL_len l1 ks n]
def ckFine (x : S42) : Prop := x.f0 = 0 ∨ x.f0 = 1
def pacelinelaw08_ConfigKinds.P (k : Nat) (l0 : List Int) (l1 : List S42) (a0 : Int) (ks : List Bool) : Prop := pacelinelaw08_heavy.f k l0 l1 a0 = some true ∨ (pacelinelaw08_heavy.f k l0 l1 a0 = some false ∧ l1.length ≤ 20 ∧ ((∀ i, i < l1.length → ckFine (l1.getD i z42)) → ∃ (n e m : Int), config_Check.f l0 l1 a0 = some (n, e) ∧ config_Check.f l0 (ckTurnedL l1 ks l1.length) a0 = some (n, e) ∧ pacelineref08_Check.f k l0 l1 a0 = some (m, e) ∧ (e = 0 → ∃ L, config_Starts.f k l0 l1 a0 = some L ∧ config_Starts.f k l0 (ckTurnedL l1 ks l1.length) a0 = some L ∧ pacelinelaw08_same.f k L L = some true)))
open Classical in
noncomputable def pacelinelaw08_ConfigKinds.f (k : Nat) (l0 : List Int) (l1 : List S42) (a0 : Int) (ks : List Bool) : Option Bool := if pacelinelaw08_ConfigKinds.P k l0 l1 a0 ks then some true else none
theorem ckInfo : (Try.prog.info? 42).map (fun i => (i.zero, i.size, i.bytes)) = some (some (.agg #[.int .i64 0, .int .i64 0, .int .i64 0, .slice none 0 0, .slice none 0 0, .slice none 0 0, .slice none 0 0]), 7, 120) := by kernel_rfl
set_option maxRecDepth 100000 in
set_option maxHeartbeats 8000000 in
theorem pacelinelaw08_ConfigKinds.calls (k : Nat) (A0 : Option Addr) (c0 : Nat) (l0 : List Int) (A1 : Option Addr) (c1 : Nat) (l1 : List S42) (a0 : Int) (A2 : Option Addr) (c2 : Nat) (ks : List Bool) (r : Bool) (w : World) (hr0 : Kd.C (Kd.int .i64) w A0 l0.length l0) (hc0 : l0.length ≤ c0) (hr1 : Kd.C k42 w A1 l1.length l1) (hc1 : l1.length ≤ c1) (hr2 : Kd.C Kd.bool w A2 ks.length ks) (hc2 : ks.length ≤ c2) (h : pacelinelaw08_ConfigKinds.f k l0 l1 a0 ks = some r) :
    Calls Try.prog 7 #[.agg #[.slice A0 l0.length c0, .slice A1 l1.length c1, .int .i64 a0], .slice A2 ks.length c2] w fun e w' => e = .returned (.bool r) ∧ Below w.heap.size w w' := by
  unfold pacelinelaw08_ConfigKinds.f at h
  split at h
  · rename_i hP
    obtain rfl := Option.some.inj h
    clear h
    have BA := Aside0.mk (below_alloc (Below.refl w.heap.size w) (.cells #[.slice A0 l0.length c0, .slice A1 l1.length c1, .int .i64 a0] 25 (0, 0)))
    have BN := Aside0.mk (show (w.alloc (.cells #[.slice A0 l0.length c0, .slice A1 l1.length c1, .int .i64 a0] 25 (0, 0))).heap[w.heap.size]? = some (.cells #[.slice A0 l0.length c0, .slice A1 l1.length c1, .int .i64 a0] 25 (0, 0)) from blk_new w _)
    have BZ := Aside0.mk (show (w.alloc (.cells #[.slice A0 l0.length c0, .slice A1 l1.length c1, .int .i64 a0] 25 (0, 0))).heap.size = w.heap.size + 1 by simp)
    have CSh := Aside0.mk (fun W => pacelinelaw08_shown.calls true W rfl)
    rcases hP with hv | ⟨hv, hlen, hF⟩
    · have CH := Aside0.mk (pacelinelaw08_heavy.calls k A0 c0 l0 A1 c1 l1 a0 true _ (Kd.C_below hr0 BA.out) hc0 (Kd.C_below hr1 BA.out) hc1 hv)
      clear hv hr0 hc0 hr1 hc1 hr2 hc2
      go_enter Try.func7, Try.ntmps7
      go_wp2_with (first | (go_at_call 9; refine CH.out.mono ?_; rintro e w1 ⟨rfl, hb⟩; have B1 := Aside0.mk (below_step BA.out hb); clear hb) | (go_at_call 12; refine (CSh.out _).mono ?_; rintro e w2 ⟨rfl, hb⟩; have B2 := Aside0.mk (below_step B1.out hb); clear hb))
      go_ret
      exact ⟨rfl, B2.out⟩
    · have CH := Aside0.mk (pacelinelaw08_heavy.calls k A0 c0 l0 A1 c1 l1 a0 false _ (Kd.C_below hr0 BA.out) hc0 (Kd.C_below hr1 BA.out) hc1 hv)
      have H0 := Aside0.mk (And.intro hr0 hc0)
      have H1 := Aside0.mk (And.intro hr1 hc1)
      have H2 := Aside0.mk hr2
      have HF := Aside0.mk hF
      have HL := Aside0.mk hlen
      clear hv hr0 hc0 hr1 hc1 hr2 hc2 hF hlen
      go_enter Try.func7, Try.ntmps7
      go_upto_region 4 with (go_at_call 9; refine CH.out.mono ?_; rintro e w1 ⟨rfl, hb⟩; have B1 := Aside0.mk (below_step BA.out hb); have N1 := Aside0.mk (blk_below BN.out hb); have k0 := (blk_cell N1.out 0).trans rfl; have k1 := (blk_cell N1.out 1).trans rfl; have k2 := (blk_cell N1.out 2).trans rfl; have Z1 := Aside0.mk (BZ.out ▸ hb.size); clear hb)
      have N5 := Aside0.mk (show (w1.alloc (.cells #[.slice A0 l0.length c0, .slice A1 l1.length c1, .int .i64 a0] 25 (0, 0))).heap[w1.heap.size]? = some (.cells #[.slice A0 l0.length c0, .slice A1 l1.length c1, .int .i64 a0] 25 (0, 0)) from blk_new w1 _)
      have N2 := Aside0.mk (show (w1.alloc (.cells #[.slice A0 l0.length c0, .slice A1 l1.length c1, .int .i64 a0] 25 (0, 0))).heap[w.heap.size]? = some (.cells #[.slice A0 l0.length c0, .slice A1 l1.length c1, .int .i64 a0] 25 (0, 0)) from blk_alloc N1.out _)
      have BW := Aside0.mk (show Below w.heap.size w (w1.alloc (.cells #[.slice A0 l0.length c0, .slice A1 l1.length c1, .int .i64 a0] 25 (0, 0))) from below_alloc B1.out _)
      have ZW := Aside0.mk (show (w1.alloc (.cells #[.slice A0 l0.length c0, .slice A1 l1.length c1, .int .i64 a0] 25 (0, 0))).heap.size = w1.heap.size + 1 by simp)
      clear N1 B1 BA BN BZ CH k0 k1 k2
      generalize (w1.alloc (.cells #[.slice A0 l0.length c0, .slice A1 l1.length c1, .int .i64 a0] 25 (0, 0))) = W4 at N5 N2 BW ZW ⊢
      generalize w1.heap.size = b5 at N5 ZW Z1 ⊢
      go_upto_region 5 with ((with_reducible refine gate_dst (N := 18) rfl ?_); refine Kd.R_lit (ckFrozen k42 w) (b5 + 1) 42 ?hg (N := 18) ?hd (xs := ([] : List S42)) (inner := []) (ok := fun _ => True) (okp := fun _ => True) ?hr ?hp (fun _ hk => hk) trivial (Below.refl (b5 + 1) W4) (by rw [ZW.out]; exact Nat.le_refl _) (by simp) ?_; (case hd => rfl); (case hg => rfl); (case hr => first | (go_simp; done) | (go_simp; rfl)); (case hp => exact (Reps.none _ _)); intro v2 w5 ho hb hg_ hnew_; clear hnew_; obtain ⟨A5, c5, rfl⟩ := Kd.R_slice ho; have HO := Aside0.mk ho; have hb5 := (show Below W4.heap.size W4 w5 by rw [ZW.out]; exact hb); have M5 := Aside0.mk (blk_below N5.out hb5); have M2 := Aside0.mk (blk_below N2.out hb5); have HB := Aside0.mk (below_step BW.out hb5); have HZ := Aside0.mk (show b5 + 1 ≤ w5.heap.size by have := hb5.size; rw [ZW.out] at this; exact this); clear ho hb hg_ hb5; have k1 := (blk_cell M5.out 1).trans rfl; have z1 := blk_frozen M5.out 1)
      have P5 := Aside0.mk (blk_put M5.out 1 (.slice A5 ([] : List S42).length c5) rfl)
      have P2 := Aside0.mk (blk_far M2.out (p := ⟨b5, 1, none⟩) (by have := Z1.out; show w.heap.size ≠ b5; omega) (.slice A5 ([] : List S42).length c5))
      have PO := Aside0.mk (ckFar HO.out (p := ⟨b5, 1, none⟩) (Nat.lt_succ_self b5) (.slice A5 ([] : List S42).length c5))
      have PB := Aside0.mk (HB.out.setCell (p := ⟨b5, 1, none⟩) (by have := Z1.out; show w.heap.size ≤ b5; omega) (.slice A5 ([] : List S42).length c5))
      have PZ := Aside0.mk (show b5 + 1 ≤ (w5.setCell ⟨b5, 1, none⟩ (.slice A5 ([] : List S42).length c5)).heap.size by have := HZ.out; simpa [World.setCell] using this)
      clear N5 N2 BW ZW HO M5 M2 HB HZ
      go_wp2
      go_loopw [6] (fun v6 wr => ∃ (i : Nat) (Av : Option Addr) (cv : Nat), i ≤ l1.length ∧ v6 = .int .i64 i ∧ Aside0 (∀ j, j < i → ckFine (l1.getD j z42)) ∧ Aside0 (wr.heap[b5]? = some (.cells #[.slice A0 l0.length c0, .slice Av (ckTurnedL l1 ks i).length cv, .int .i64 a0] 25 (0, 0))) ∧ Aside0 ((ckFrozen k42 w).R 42 wr (b5 + 1) (fun _ => True) (.slice Av (ckTurnedL l1 ks i).length cv) (ckTurnedL l1 ks i)) ∧ Aside0 (wr.heap[w.heap.size]? = some (.cells #[.slice A0 l0.length c0, .slice A1 l1.length c1, .int .i64 a0] 25 (0, 0))) ∧ Aside0 (Below w.heap.size w wr) ∧ Aside0 (b5 + 1 ≤ wr.heap.size)) (fun i _ => l1.length - (intOf i).toNat)
      case atStart => exact ⟨0, A5, c5, by omega, rfl, ⟨fun j hj => by omega⟩, P5, PO, P2, PB, PZ⟩
      case round =>
        clear P5 PO P2 PB PZ
        obtain ⟨i, Av, cv, hi, rfl, HFi, P5, PO, P2, PB, PZ⟩ := hrel
        have p20 := (blk_cell P2.out 0).trans rfl
        have p21 := (blk_cell P2.out 1).trans rfl
        have p22 := (blk_cell P2.out 2).trans rfl
        have p50 := (blk_cell P5.out 0).trans rfl
        have p51 := (blk_cell P5.out 1).trans rfl
        have p52 := (blk_cell P5.out 2).trans rfl
        have pz51 := blk_frozen P5.out 1
        have hL20 : (i : Int) ≤ 20 := by have := HL.out; omega
        by_cases hlt : i < l1.length
        · have hlt1 : (i : Int) < (l1.length : Int) := by omega
          have hx : l1[i]? = some (l1.getD i z42) := by rw [List.getD_eq_getElem?_getD, List.getElem?_eq_getElem hlt]; rfl
          obtain ⟨ad, cs, rfl, hcl, hK, hcell⟩ := ckCells H1.out.1 hx
          have HTL := Aside0.mk (show ckTurnedL l1 ks (i + 1) = ckTurnedL l1 ks i ++ [ckTurned ks i (l1.getD i z42)] from rfl)
          have HTN := Aside0.mk (ckTurnedL_len l1 ks i)
          have HFs := Aside0.mk (fun (hf : ckFine (l1.getD i z42)) j (hj : j < i + 1) => show ckFine (l1.getD j z42) from if e : j = i then e ▸ hf else HFi.out j (by omega))
          generalize l1.getD i z42 = x at hK HTL HFs
          obtain ⟨B3, d3, B4, d4, B5, d5, B6, d6, rfl, s1, s2, s3, s4, s5, s6, s7, s8⟩ := k42_open hK
          have HS := Aside0.mk (And.intro s1 (And.intro s2 (And.intro s3 (And.intro s4 (And.intro s5 (And.intro s6 (And.intro s7 s8)))))))
          have q0 : w.cell? (ad.add (i * 7)) = some (.int .i64 x.f0) := by exact hcell 0 _ rfl
          have q1 : w.cell? ⟨(ad.add (i * 7)).block, (ad.add (i * 7)).off + 1, none⟩ = some (.int .i64 x.f1) := by have := hcell 1 _ rfl; rwa [add_field _ _ 1 (by omega)] at this
          have q2 : w.cell? ⟨(ad.add (i * 7)).block, (ad.add (i * 7)).off + 2, none⟩ = some (.int .i64 x.f2) := by have := hcell 2 _ rfl; rwa [add_field _ _ 2 (by omega)] at this
          have q3 : w.cell? ⟨(ad.add (i * 7)).block, (ad.add (i * 7)).off + 3, none⟩ = some (.slice B3 x.f3.length d3) := by have := hcell 3 _ rfl; rwa [add_field _ _ 3 (by omega)] at this
          have q4 : w.cell? ⟨(ad.add (i * 7)).block, (ad.add (i * 7)).off + 4, none⟩ = some (.slice B4 x.f4.length d4) := by have := hcell 4 _ rfl; rwa [add_field _ _ 4 (by omega)] at this
          have q5 : w.cell? ⟨(ad.add (i * 7)).block, (ad.add (i * 7)).off + 5, none⟩ = some (.slice B5 x.f5.length d5) := by have := hcell 5 _ rfl; rwa [add_field _ _ 5 (by omega)] at this
          have q6 : w.cell? ⟨(ad.add (i * 7)).block, (ad.add (i * 7)).off + 6, none⟩ = some (.slice B6 x.f6.length d6) := by have := hcell 6 _ rfl; rwa [add_field _ _ 6 (by omega)] at this
          replace q0 := pw_cell_below PB.out q0
          replace q1 := pw_cell_below PB.out q1
          replace q2 := pw_cell_below PB.out q2
          replace q3 := pw_cell_below PB.out q3
          replace q4 := pw_cell_below PB.out q4
          replace q5 := pw_cell_below PB.out q5
          replace q6 := pw_cell_below PB.out q6
          clear hcell hcl hK hx s1 s2 s3 s4 s5 s6 s7 s8
          by_cases h0 : x.f0 = 0
          · have HFn := Aside0.mk (HFs.out (Or.inl h0))
            rw [h0] at q0
            clear h0 HFs
            by_cases hkl : i < ks.length
            · obtain ⟨ak, rfl, kc⟩ := Kd.at_bool H2.out (i : Int) (by omega) (by omega)
              rw [Int.toNat_natCast] at kc
              replace kc := pw_cell_below PB.out kc
              have hkd : rdOf false ks (i : Int) = ks.getD i false := by unfold rdOf; rw [Int.toNat_natCast]
              rw [hkd] at kc
              clear hkd
              cases hkb : ks.getD i false with
              | true =>
                rw [hkb] at kc
                have hkv : ckKind ks i = 1 := by unfold ckKind; rw [hkb]; rfl
                clear hkb
                have HM := Aside0.mk (show k42.K w (ckTurned ks i x) [.int .i64 1, .int .i64 x.f1, .int .i64 x.f2, .slice B3 x.f3.length d3, .slice B4 x.f4.length d4, .slice B5 x.f5.length d5, .slice B6 x.f6.length d6] by rw [show ckTurned ks i x = ⟨1, x.f1, x.f2, x.f3, x.f4, x.f5, x.f6⟩ by unfold ckTurned; rw [hkv]]; exact k42_mk w ⟨1, x.f1, x.f2, x.f3, x.f4, x.f5, x.f6⟩ HS.out.1 HS.out.2.1 HS.out.2.2.1 HS.out.2.2.2.1 HS.out.2.2.2.2.1 HS.out.2.2.2.2.2.1 HS.out.2.2.2.2.2.2.1 HS.out.2.2.2.2.2.2.2)
                clear hkv
                have KC := Aside0.mk kc
                go_upto_region 9 with fail
                have BFA := Aside0.mk (show Below wr.heap.size wr (wr.alloc (.cells #[.int .i64 0, .int .i64 x.f1, .int .i64 x.f2, .slice B3 x.f3.length d3, .slice B4 x.f4.length d4, .slice B5 x.f5.length d5, .slice B6 x.f6.length d6] 42 (0, 0))) from below_alloc (Below.refl _ _) _)
                have NFA := Aside0.mk (show (wr.alloc (.cells #[.int .i64 0, .int .i64 x.f1, .int .i64 x.f2, .slice B3 x.f3.length d3, .slice B4 x.f4.length d4, .slice B5 x.f5.length d5, .slice B6 x.f6.length d6] 42 (0, 0))).heap[wr.heap.size]? = some (.cells #[.int .i64 0, .int .i64 x.f1, .int .i64 x.f2, .slice B3 x.f3.length d3, .slice B4 x.f4.length d4, .slice B5 x.f5.length d5, .slice B6 x.f6.length d6] 42 (0, 0)) from blk_new wr _)
                generalize (wr.alloc (.cells #[.int .i64 0, .int .i64 x.f1, .int .i64 x.f2, .slice B3 x.f3.length d3, .slice B4 x.f4.length d4, .slice B5 x.f5.length d5, .slice B6 x.f6.length d6] 42 (0, 0))) = WA at BFA NFA ⊢
                replace p20 := (blk_cell (blk_below P2.out BFA.out) 0).trans rfl
                replace p21 := (blk_cell (blk_below P2.out BFA.out) 1).trans rfl
                replace p22 := (blk_cell (blk_below P2.out BFA.out) 2).trans rfl
                replace p51 := (blk_cell (blk_below P5.out BFA.out) 1).trans rfl
                replace pz51 := blk_frozen (blk_below P5.out BFA.out) 1
                replace kc := pw_cell_below BFA.out KC.out
                have fA_0 := (blk_cell NFA.out 0).trans rfl
                have fA_1 := (blk_cell NFA.out 1).trans rfl
                have fA_2 := (blk_cell NFA.out 2).trans rfl
                have fA_3 := (blk_cell NFA.out 3).trans rfl
                have fA_4 := (blk_cell NFA.out 4).trans rfl
                have fA_5 := (blk_cell NFA.out 5).trans rfl
                have fA_6 := (blk_cell NFA.out 6).trans rfl
                have fzA := blk_frozen NFA.out 0
                clear q0 q1 q2 q3 q4 q5 q6
                go_upto_region 12 with fail
                have BFB := Aside0.mk (BFA.out.setCell (p := ⟨wr.heap.size, 0, none⟩) (Nat.le_refl _) (.int .i64 0))
                have NFB := Aside0.mk (blk_put NFA.out 0 (.int .i64 0) (cs' := #[.int .i64 0, .int .i64 x.f1, .int .i64 x.f2, .slice B3 x.f3.length d3, .slice B4 x.f4.length d4, .slice B5 x.f5.length d5, .slice B6 x.f6.length d6]) rfl)
                generalize WA.setCell ⟨wr.heap.size, 0, none⟩ (.int .i64 0) = WB at BFB NFB ⊢
                replace p20 := (blk_cell (blk_below P2.out BFB.out) 0).trans rfl
                replace p21 := (blk_cell (blk_below P2.out BFB.out) 1).trans rfl
                replace p22 := (blk_cell (blk_below P2.out BFB.out) 2).trans rfl
                replace p51 := (blk_cell (blk_below P5.out BFB.out) 1).trans rfl
                replace pz51 := blk_frozen (blk_below P5.out BFB.out) 1
                replace kc := pw_cell_below BFB.out KC.out
                have fB_0 := (blk_cell NFB.out 0).trans rfl
                have fB_1 := (blk_cell NFB.out 1).trans rfl
                have fB_2 := (blk_cell NFB.out 2).trans rfl
                have fB_3 := (blk_cell NFB.out 3).trans rfl
                have fB_4 := (blk_cell NFB.out 4).trans rfl
                have fB_5 := (blk_cell NFB.out 5).trans rfl
                have fB_6 := (blk_cell NFB.out 6).trans rfl
                have fzB := blk_frozen NFB.out 0
                clear fA_0 fA_1 fA_2 fA_3 fA_4 fA_5 fA_6 fzA
                go_upto_region 14 with fail
                have BFC := Aside0.mk (BFB.out.setCell (p := ⟨wr.heap.size, 0, none⟩) (Nat.le_refl _) (.int .i64 1))
                have NFC := Aside0.mk (blk_put NFB.out 0 (.int .i64 1) (cs' := #[.int .i64 1, .int .i64 x.f1, .int .i64 x.f2, .slice B3 x.f3.length d3, .slice B4 x.f4.length d4, .slice B5 x.f5.length d5, .slice B6 x.f6.length d6]) rfl)
                generalize WB.setCell ⟨wr.heap.size, 0, none⟩ (.int .i64 1) = WC at BFC NFC ⊢
                replace p20 := (blk_cell (blk_below P2.out BFC.out) 0).trans rfl
                replace p21 := (blk_cell (blk_below P2.out BFC.out) 1).trans rfl
                replace p22 := (blk_cell (blk_below P2.out BFC.out) 2).trans rfl
                replace p51 := (blk_cell (blk_below P5.out BFC.out) 1).trans rfl
                replace pz51 := blk_frozen (blk_below P5.out BFC.out) 1
                replace kc := pw_cell_below BFC.out KC.out
                have fC_0 := (blk_cell NFC.out 0).trans rfl
                have fC_1 := (blk_cell NFC.out 1).trans rfl
                have fC_2 := (blk_cell NFC.out 2).trans rfl
                have fC_3 := (blk_cell NFC.out 3).trans rfl
                have fC_4 := (blk_cell NFC.out 4).trans rfl
                have fC_5 := (blk_cell NFC.out 5).trans rfl
                have fC_6 := (blk_cell NFC.out 6).trans rfl
                have fzC := blk_frozen NFC.out 0
                clear fB_0 fB_1 fB_2 fB_3 fB_4 fB_5 fB_6 fzB
                go_wp2_with ((with_reducible refine gate_builtin (b := .append) (xs := #[.tmp 54, .tmp 56]) rfl ?_); at_builtin; refine Kd.R_append (ckFrozen k42 w) (w0 := WC) (b5 + 1) rfl (.tmp 54) (.tmp 56) 23 42 _ 120 rfl Try.underlying23 ckInfo rfl (show 0 < 7 by decide) (by omega) (.slice Av (ckTurnedL l1 ks i).length cv) (ckTurnedL l1 ks i) (ckTurned ks i x) [.int .i64 1, .int .i64 x.f1, .int .i64 x.f2, .slice B3 x.f3.length d3, .slice B4 x.f4.length d4, .slice B5 x.f5.length d5, .slice B6 x.f6.length d6] (fun _ => True) (fun _ => False) rfl rfl HM.out (fun _ hk => hk.elim) (fun _ _ => trivial) (Kd.R_step PO.out (fun k _ hlt => BFC.out.block k hlt)) (Below.refl _ _) (Nat.le_trans PZ.out BFC.out.size) (by have := HTN.out; have := HL.out; omega) ?_; intro v3 w3 ho hb hg hat; clear hg hat; rw [← HTL.out] at ho; obtain ⟨A9, c9, rfl⟩ := Kd.R_slice ho; have HO3 := Aside0.mk ho; have HB3 := Aside0.mk hb; have M5 := Aside0.mk ((hb.block b5 (Nat.lt_succ_self b5)).trans (blk_below P5.out BFC.out)); have M2 := Aside0.mk ((hb.block w.heap.size (by have := Z1.out; omega)).trans (blk_below P2.out BFC.out)); clear ho hb; have k1 := (blk_cell M5.out 1).trans rfl; have z1 := blk_frozen M5.out 1)
                go_roundw
                case rel => exact ⟨i + 1, A9, c9, by omega, by go_num, HFn, ⟨blk_put M5.out 1 _ rfl⟩, ⟨ckFar HO3.out (p := ⟨b5, 1, none⟩) (Nat.lt_succ_self b5) _⟩, ⟨blk_far M2.out (p := ⟨b5, 1, none⟩) (by have := Z1.out; show w.heap.size ≠ b5; omega) _⟩, ⟨((below_step PB.out BFC.out).trans (HB3.out.mono (by have := Z1.out; omega))).setCell (p := ⟨b5, 1, none⟩) (by have := Z1.out; show w.heap.size ≤ b5; omega) _⟩, ⟨by have h1 := Nat.le_trans PZ.out BFC.out.size; have h2 := HB3.out.size; have := Nat.le_trans h1 h2; simpa [World.setCell] using this⟩⟩
                case measure => simp [intOf]; omega
              | false =>
                rw [hkb] at kc
                have hkv : ckKind ks i = 0 := by unfold ckKind; rw [hkb]; rfl
                clear hkb
                have HM := Aside0.mk (show k42.K w (ckTurned ks i x) [.int .i64 0, .int .i64 x.f1, .int .i64 x.f2, .slice B3 x.f3.length d3, .slice B4 x.f4.length d4, .slice B5 x.f5.length d5, .slice B6 x.f6.length d6] by rw [show ckTurned ks i x = ⟨0, x.f1, x.f2, x.f3, x.f4, x.f5, x.f6⟩ by unfold ckTurned; rw [hkv]]; exact k42_mk w ⟨0, x.f1, x.f2, x.f3, x.f4, x.f5, x.f6⟩ HS.out.1 HS.out.2.1 HS.out.2.2.1 HS.out.2.2.2.1 HS.out.2.2.2.2.1 HS.out.2.2.2.2.2.1 HS.out.2.2.2.2.2.2.1 HS.out.2.2.2.2.2.2.2)
                clear hkv
                have KC := Aside0.mk kc
                go_upto_region 9 with fail
                have BFA := Aside0.mk (show Below wr.heap.size wr (wr.alloc (.cells #[.int .i64 0, .int .i64 x.f1, .int .i64 x.f2, .slice B3 x.f3.length d3, .slice B4 x.f4.length d4, .slice B5 x.f5.length d5, .slice B6 x.f6.length d6] 42 (0, 0))) from below_alloc (Below.refl _ _) _)
                have NFA := Aside0.mk (show (wr.alloc (.cells #[.int .i64 0, .int .i64 x.f1, .int .i64 x.f2, .slice B3 x.f3.length d3, .slice B4 x.f4.length d4, .slice B5 x.f5.length d5, .slice B6 x.f6.length d6] 42 (0, 0))).heap[wr.heap.size]? = some (.cells #[.int .i64 0, .int .i64 x.f1, .int .i64 x.f2, .slice B3 x.f3.length d3, .slice B4 x.f4.length d4, .slice B5 x.f5.length d5, .slice B6 x.f6.length d6] 42 (0, 0)) from blk_new wr _)
                generalize (wr.alloc (.cells #[.int .i64 0, .int .i64 x.f1, .int .i64 x.f2, .slice B3 x.f3.length d3, .slice B4 x.f4.length d4, .slice B5 x.f5.length d5, .slice B6 x.f6.length d6] 42 (0, 0))) = WA at BFA NFA ⊢
                replace p20 := (blk_cell (blk_below P2.out BFA.out) 0).trans rfl
                replace p21 := (blk_cell (blk_below P2.out BFA.out) 1).trans rfl
                replace p22 := (blk_cell (blk_below P2.out BFA.out) 2).trans rfl
                replace p51 := (blk_cell (blk_below P5.out BFA.out) 1).trans rfl
                replace pz51 := blk_frozen (blk_below P5.out BFA.out) 1
                replace kc := pw_cell_below BFA.out KC.out
                have fA_0 := (blk_cell NFA.out 0).trans rfl
                have fA_1 := (blk_cell NFA.out 1).trans rfl
                have fA_2 := (blk_cell NFA.out 2).trans rfl
                have fA_3 := (blk_cell NFA.out 3).trans rfl
                have fA_4 := (blk_cell NFA.out 4).trans rfl
                have fA_5 := (blk_cell NFA.out 5).trans rfl
                have fA_6 := (blk_cell NFA.out 6).trans rfl
                have fzA := blk_frozen NFA.out 0
                clear q0 q1 q2 q3 q4 q5 q6
                go_upto_region 12 with fail
                have BFB := Aside0.mk (BFA.out.setCell (p := ⟨wr.heap.size, 0, none⟩) (Nat.le_refl _) (.int .i64 0))
                have NFB := Aside0.mk (blk_put NFA.out 0 (.int .i64 0) (cs' := #[.int .i64 0, .int .i64 x.f1, .int .i64 x.f2, .slice B3 x.f3.length d3, .slice B4 x.f4.length d4, .slice B5 x.f5.length d5, .slice B6 x.f6.length d6]) rfl)
                generalize WA.setCell ⟨wr.heap.size, 0, none⟩ (.int .i64 0) = WB at BFB NFB ⊢
                replace p20 := (blk_cell (blk_below P2.out BFB.out) 0).trans rfl
                replace p21 := (blk_cell (blk_below P2.out BFB.out) 1).trans rfl
                replace p22 := (blk_cell (blk_below P2.out BFB.out) 2).trans rfl
                replace p51 := (blk_cell (blk_below P5.out BFB.out) 1).trans rfl
                replace pz51 := blk_frozen (blk_below P5.out BFB.out) 1
                replace kc := pw_cell_below BFB.out KC.out
                have fB_0 := (blk_cell NFB.out 0).trans rfl
                have fB_1 := (blk_cell NFB.out 1).trans rfl
                have fB_2 := (blk_cell NFB.out 2).trans rfl
                have fB_3 := (blk_cell NFB.out 3).trans rfl
                have fB_4 := (blk_cell NFB.out 4).trans rfl
                have fB_5 := (blk_cell NFB.out 5).trans rfl
                have fB_6 := (blk_cell NFB.out 6).trans rfl
                have fzB := blk_frozen NFB.out 0
                clear fA_0 fA_1 fA_2 fA_3 fA_4 fA_5 fA_6 fzA
                go_wp2_with ((with_reducible refine gate_builtin (b := .append) (xs := #[.tmp 54, .tmp 56]) rfl ?_); at_builtin; refine Kd.R_append (ckFrozen k42 w) (w0 := WB) (b5 + 1) rfl (.tmp 54) (.tmp 56) 23 42 _ 120 rfl Try.underlying23 ckInfo rfl (show 0 < 7 by decide) (by omega) (.slice Av (ckTurnedL l1 ks i).length cv) (ckTurnedL l1 ks i) (ckTurned ks i x) [.int .i64 0, .int .i64 x.f1, .int .i64 x.f2, .slice B3 x.f3.length d3, .slice B4 x.f4.length d4, .slice B5 x.f5.length d5, .slice B6 x.f6.length d6] (fun _ => True) (fun _ => False) rfl rfl HM.out (fun _ hk => hk.elim) (fun _ _ => trivial) (Kd.R_step PO.out (fun k _ hlt => BFB.out.block k hlt)) (Below.refl _ _) (Nat.le_trans PZ.out BFB.out.size) (by have := HTN.out; have := HL.out; omega) ?_; intro v3 w3 ho hb hg hat; clear hg hat; rw [← HTL.out] at ho; obtain ⟨A9, c9, rfl⟩ := Kd.R_slice ho; have HO3 := Aside0.mk ho; have HB3 := Aside0.mk hb; have M5 := Aside0.mk ((hb.block b5 (Nat.lt_succ_self b5)).trans (blk_below P5.out BFB.out)); have M2 := Aside0.mk ((hb.block w.heap.size (by have := Z1.out; omega)).trans (blk_below P2.out BFB.out)); clear ho hb; have k1 := (blk_cell M5.out 1).trans rfl; have z1 := blk_frozen M5.out 1)
                go_roundw
                case rel => exact ⟨i + 1, A9, c9, by omega, by go_num, HFn, ⟨blk_put M5.out 1 _ rfl⟩, ⟨ckFar HO3.out (p := ⟨b5, 1, none⟩) (Nat.lt_succ_self b5) _⟩, ⟨blk_far M2.out (p := ⟨b5, 1, none⟩) (by have := Z1.out; show w.heap.size ≠ b5; omega) _⟩, ⟨((below_step PB.out BFB.out).trans (HB3.out.mono (by have := Z1.out; omega))).setCell (p := ⟨b5, 1, none⟩) (by have := Z1.out; show w.heap.size ≤ b5; omega) _⟩, ⟨by have h1 := Nat.le_trans PZ.out BFB.out.size; have h2 := HB3.out.size; have := Nat.le_trans h1 h2; simpa [World.setCell] using this⟩⟩
                case measure => simp [intOf]; omega
            · have hkv : ckKind ks i = 0 := by unfold ckKind; rw [List.getD_eq_getElem?_getD, List.getElem?_eq_none (by omega)]; rfl
              have HM := Aside0.mk (show k42.K w (ckTurned ks i x) [.int .i64 0, .int .i64 x.f1, .int .i64 x.f2, .slice B3 x.f3.length d3, .slice B4 x.f4.length d4, .slice B5 x.f5.length d5, .slice B6 x.f6.length d6] by rw [show ckTurned ks i x = ⟨0, x.f1, x.f2, x.f3, x.f4, x.f5, x.f6⟩ by unfold ckTurned; rw [hkv]]; exact k42_mk w ⟨0, x.f1, x.f2, x.f3, x.f4, x.f5, x.f6⟩ HS.out.1 HS.out.2.1 HS.out.2.2.1 HS.out.2.2.2.1 HS.out.2.2.2.2.1 HS.out.2.2.2.2.2.1 HS.out.2.2.2.2.2.2.1 HS.out.2.2.2.2.2.2.2)
              clear hkv
              go_upto_region 9 with fail
              have BFA := Aside0.mk (show Below wr.heap.size wr (wr.alloc (.cells #[.int .i64 0, .int .i64 x.f1, .int .i64 x.f2, .slice B3 x.f3.length d3, .slice B4 x.f4.length d4, .slice B5 x.f5.length d5, .slice B6 x.f6.length d6] 42 (0, 0))) from below_alloc (Below.refl _ _) _)
              have NFA := Aside0.mk (show (wr.alloc (.cells #[.int .i64 0, .int .i64 x.f1, .int .i64 x.f2, .slice B3 x.f3.length d3, .slice B4 x.f4.length d4, .slice B5 x.f5.length d5, .slice B6 x.f6.length d6] 42 (0, 0))).heap[wr.heap.size]? = some (.cells #[.int .i64 0, .int .i64 x.f1, .int .i64 x.f2, .slice B3 x.f3.length d3, .slice B4 x.f4.length d4, .slice B5 x.f5.length d5, .slice B6 x.f6.length d6] 42 (0, 0)) from blk_new wr _)
              generalize (wr.alloc (.cells #[.int .i64 0, .int .i64 x.f1, .int .i64 x.f2, .slice B3 x.f3.length d3, .slice B4 x.f4.length d4, .slice B5 x.f5.length d5, .slice B6 x.f6.length d6] 42 (0, 0))) = WA at BFA NFA ⊢
              replace p20 := (blk_cell (blk_below P2.out BFA.out) 0).trans rfl
              replace p21 := (blk_cell (blk_below P2.out BFA.out) 1).trans rfl
              replace p22 := (blk_cell (blk_below P2.out BFA.out) 2).trans rfl
              replace p51 := (blk_cell (blk_below P5.out BFA.out) 1).trans rfl
              replace pz51 := blk_frozen (blk_below P5.out BFA.out) 1
              have fA_0 := (blk_cell NFA.out 0).trans rfl
              have fA_1 := (blk_cell NFA.out 1).trans rfl
              have fA_2 := (blk_cell NFA.out 2).trans rfl
              have fA_3 := (blk_cell NFA.out 3).trans rfl
              have fA_4 := (blk_cell NFA.out 4).trans rfl
              have fA_5 := (blk_cell NFA.out 5).trans rfl
              have fA_6 := (blk_cell NFA.out 6).trans rfl
              have fzA := blk_frozen NFA.out 0
              clear q0 q1 q2 q3 q4 q5 q6
              go_upto_region 12 with fail
              have BFB := Aside0.mk (BFA.out.setCell (p := ⟨wr.heap.size, 0, none⟩) (Nat.le_refl _) (.int .i64 0))
              have NFB := Aside0.mk (blk_put NFA.out 0 (.int .i64 0) (cs' := #[.int .i64 0, .int .i64 x.f1, .int .i64 x.f2, .slice B3 x.f3.length d3, .slice B4 x.f4.length d4, .slice B5 x.f5.length d5, .slice B6 x.f6.length d6]) rfl)
              generalize WA.setCell ⟨wr.heap.size, 0, none⟩ (.int .i64 0) = WB at BFB NFB ⊢
              replace p20 := (blk_cell (blk_below P2.out BFB.out) 0).trans rfl
              replace p21 := (blk_cell (blk_below P2.out BFB.out) 1).trans rfl
              replace p22 := (blk_cell (blk_below P2.out BFB.out) 2).trans rfl
              replace p51 := (blk_cell (blk_below P5.out BFB.out) 1).trans rfl
              replace pz51 := blk_frozen (blk_below P5.out BFB.out) 1
              have fB_0 := (blk_cell NFB.out 0).trans rfl
              have fB_1 := (blk_cell NFB.out 1).trans rfl
              have fB_2 := (blk_cell NFB.out 2).trans rfl
              have fB_3 := (blk_cell NFB.out 3).trans rfl
              have fB_4 := (blk_cell NFB.out 4).trans rfl
              have fB_5 := (blk_cell NFB.out 5).trans rfl
              have fB_6 := (blk_cell NFB.out 6).trans rfl
              have fzB := blk_frozen NFB.out 0
              clear fA_0 fA_1 fA_2 fA_3 fA_4 fA_5 fA_6 fzA
              go_wp2_with ((with_reducible refine gate_builtin (b := .append) (xs := #[.tmp 54, .tmp 56]) rfl ?_); at_builtin; refine Kd.R_append (ckFrozen k42 w) (w0 := WB) (b5 + 1) rfl (.tmp 54) (.tmp 56) 23 42 _ 120 rfl Try.underlying23 ckInfo rfl (show 0 < 7 by decide) (by omega) (.slice Av (ckTurnedL l1 ks i).length cv) (ckTurnedL l1 ks i) (ckTurned ks i x) [.int .i64 0, .int .i64 x.f1, .int .i64 x.f2, .slice B3 x.f3.length d3, .slice B4 x.f4.length d4, .slice B5 x.f5.length d5, .slice B6 x.f6.length d6] (fun _ => True) (fun _ => False) rfl rfl HM.out (fun _ hk => hk.elim) (fun _ _ => trivial) (Kd.R_step PO.out (fun k _ hlt => BFB.out.block k hlt)) (Below.refl _ _) (Nat.le_trans PZ.out BFB.out.size) (by have := HTN.out; have := HL.out; omega) ?_; intro v3 w3 ho hb hg hat; clear hg hat; rw [← HTL.out] at ho; obtain ⟨A9, c9, rfl⟩ := Kd.R_slice ho; have HO3 := Aside0.mk ho; have HB3 := Aside0.mk hb; have M5 := Aside0.mk ((hb.block b5 (Nat.lt_succ_self b5)).trans (blk_below P5.out BFB.out)); have M2 := Aside0.mk ((hb.block w.heap.size (by have := Z1.out; omega)).trans (blk_below P2.out BFB.out)); clear ho hb; have k1 := (blk_cell M5.out 1).trans rfl; have z1 := blk_frozen M5.out 1)
              go_roundw
              case rel => exact ⟨i + 1, A9, c9, by omega, by go_num, HFn, ⟨blk_put M5.out 1 _ rfl⟩, ⟨ckFar HO3.out (p := ⟨b5, 1, none⟩) (Nat.lt_succ_self b5) _⟩, ⟨blk_far M2.out (p := ⟨b5, 1, none⟩) (by have := Z1.out; show w.heap.size ≠ b5; omega) _⟩, ⟨((below_step PB.out BFB.out).trans (HB3.out.mono (by have := Z1.out; omega))).setCell (p := ⟨b5, 1, none⟩) (by have := Z1.out; show w.heap.size ≤ b5; omega) _⟩, ⟨by have h1 := Nat.le_trans PZ.out BFB.out.size; have h2 := HB3.out.size; have := Nat.le_trans h1 h2; simpa [World.setCell] using this⟩⟩
              case measure => simp [intOf]; omega
          · by_cases h1 : x.f0 = 1
            · have HFn := Aside0.mk (HFs.out (Or.inr h1))
              rw [h1] at q0
              clear h0 h1 HFs
              by_cases hkl : i < ks.length
              · obtain ⟨ak, rfl, kc⟩ := Kd.at_bool H2.out (i : Int) (by omega) (by omega)
                rw [Int.toNat_natCast] at kc
                replace kc := pw_cell_below PB.out kc
                have hkd : rdOf false ks (i : Int) = ks.getD i false := by unfold rdOf; rw [Int.toNat_natCast]
                rw [hkd] at kc
                clear hkd
                cases hkb : ks.getD i false with
                | true =>
                  rw [hkb] at kc
                  have hkv : ckKind ks i = 1 := by unfold ckKind; rw [hkb]; rfl
                  clear hkb
                  have HM := Aside0.mk (show k42.K w (ckTurned ks i x) [.int .i64 1, .int .i64 x.f1, .int .i64 x.f2, .slice B3 x.f3.length d3, .slice B4 x.f4.length d4, .slice B5 x.f5.length d5, .slice B6 x.f6.length d6] by rw [show ckTurned ks i x = ⟨1, x.f1, x.f2, x.f3, x.f4, x.f5, x.f6⟩ by unfold ckTurned; rw [hkv]]; exact k42_mk w ⟨1, x.f1, x.f2, x.f3, x.f4, x.f5, x.f6⟩ HS.out.1 HS.out.2.1 HS.out.2.2.1 HS.out.2.2.2.1 HS.out.2.2.2.2.1 HS.out.2.2.2.2.2.1 HS.out.2.2.2.2.2.2.1 HS.out.2.2.2.2.2.2.2)
                  clear hkv
                  have KC := Aside0.mk kc
                  go_upto_region 9 with fail
                  have BFA := Aside0.mk (show Below wr.heap.size wr (wr.alloc (.cells #[.int .i64 1, .int .i64 x.f1, .int .i64 x.f2, .slice B3 x.f3.length d3, .slice B4 x.f4.length d4, .slice B5 x.f5.length d5, .slice B6 x.f6.length d6] 42 (0, 0))) from below_alloc (Below.refl _ _) _)
                  have NFA := Aside0.mk (show (wr.alloc (.cells #[.int .i64 1, .int .i64 x.f1, .int .i64 x.f2, .slice B3 x.f3.length d3, .slice B4 x.f4.length d4, .slice B5 x.f5.length d5, .slice B6 x.f6.length d6] 42 (0, 0))).heap[wr.heap.size]? = some (.cells #[.int .i64 1, .int .i64 x.f1, .int .i64 x.f2, .slice B3 x.f3.length d3, .slice B4 x.f4.length d4, .slice B5 x.f5.length d5, .slice B6 x.f6.length d6] 42 (0, 0)) from blk_new wr _)
                  generalize (wr.alloc (.cells #[.int .i64 1, .int .i64 x.f1, .int .i64 x.f2, .slice B3 x.f3.length d3, .slice B4 x.f4.length d4, .slice B5 x.f5.length d5, .slice B6 x.f6.length d6] 42 (0, 0))) = WA at BFA NFA ⊢
                  replace p20 := (blk_cell (blk_below P2.out BFA.out) 0).trans rfl
                  replace p21 := (blk_cell (blk_below P2.out BFA.out) 1).trans rfl
                  replace p22 := (blk_cell (blk_below P2.out BFA.out) 2).trans rfl
                  replace p51 := (blk_cell (blk_below P5.out BFA.out) 1).trans rfl
                  replace pz51 := blk_frozen (blk_below P5.out BFA.out) 1
                  replace kc := pw_cell_below BFA.out KC.out
                  have fA_0 := (blk_cell NFA.out 0).trans rfl
                  have fA_1 := (blk_cell NFA.out 1).trans rfl
                  have fA_2 := (blk_cell NFA.out 2).trans rfl
                  have fA_3 := (blk_cell NFA.out 3).trans rfl
                  have fA_4 := (blk_cell NFA.out 4).trans rfl
                  have fA_5 := (blk_cell NFA.out 5).trans rfl
                  have fA_6 := (blk_cell NFA.out 6).trans rfl
                  have fzA := blk_frozen NFA.out 0
                  clear q0 q1 q2 q3 q4 q5 q6
                  go_upto_region 12 with fail
                  have BFB := Aside0.mk (BFA.out.setCell (p := ⟨wr.heap.size, 0, none⟩) (Nat.le_refl _) (.int .i64 0))
                  have NFB := Aside0.mk (blk_put NFA.out 0 (.int .i64 0) (cs' := #[.int .i64 0, .int .i64 x.f1, .int .i64 x.f2, .slice B3 x.f3.length d3, .slice B4 x.f4.length d4, .slice B5 x.f5.length d5, .slice B6 x.f6.length d6]) rfl)
                  generalize WA.setCell ⟨wr.heap.size, 0, none⟩ (.int .i64 0) = WB at BFB NFB ⊢
                  replace p20 := (blk_cell (blk_below P2.out BFB.out) 0).trans rfl
                  replace p21 := (blk_cell (blk_below P2.out BFB.out) 1).trans rfl
                  replace p22 := (blk_cell (blk_below P2.out BFB.out) 2).trans rfl
                  replace p51 := (blk_cell (blk_below P5.out BFB.out) 1).trans rfl
                  replace pz51 := blk_frozen (blk_below P5.out BFB.out) 1
                  replace kc := pw_cell_below BFB.out KC.out
                  have fB_0 := (blk_cell NFB.out 0).trans rfl
                  have fB_1 := (blk_cell NFB.out 1).trans rfl
                  have fB_2 := (blk_cell NFB.out 2).trans rfl
                  have fB_3 := (blk_cell NFB.out 3).trans rfl
                  have fB_4 := (blk_cell NFB.out 4).trans rfl
                  have fB_5 := (blk_cell NFB.out 5).trans rfl
                  have fB_6 := (blk_cell NFB.out 6).trans rfl
                  have fzB := blk_frozen NFB.out 0
                  clear fA_0 fA_1 fA_2 fA_3 fA_4 fA_5 fA_6 fzA
                  go_upto_region 14 with fail
                  have BFC := Aside0.mk (BFB.out.setCell (p := ⟨wr.heap.size, 0, none⟩) (Nat.le_refl _) (.int .i64 1))
                  have NFC := Aside0.mk (blk_put NFB.out 0 (.int .i64 1) (cs' := #[.int .i64 1, .int .i64 x.f1, .int .i64 x.f2, .slice B3 x.f3.length d3, .slice B4 x.f4.length d4, .slice B5 x.f5.length d5, .slice B6 x.f6.length d6]) rfl)
                  generalize WB.setCell ⟨wr.heap.size, 0, none⟩ (.int .i64 1) = WC at BFC NFC ⊢
                  replace p20 := (blk_cell (blk_below P2.out BFC.out) 0).trans rfl
                  replace p21 := (blk_cell (blk_below P2.out BFC.out) 1).trans rfl
                  replace p22 := (blk_cell (blk_below P2.out BFC.out) 2).trans rfl
                  replace p51 := (blk_cell (blk_below P5.out BFC.out) 1).trans rfl
                  replace pz51 := blk_frozen (blk_below P5.out BFC.out) 1
                  replace kc := pw_cell_below BFC.out KC.out
                  have fC_0 := (blk_cell NFC.out 0).trans rfl
                  have fC_1 := (blk_cell NFC.out 1).trans rfl
                  have fC_2 := (blk_cell NFC.out 2).trans rfl
                  have fC_3 := (blk_cell NFC.out 3).trans rfl
                  have fC_4 := (blk_cell NFC.out 4).trans rfl
                  have fC_5 := (blk_cell NFC.out 5).trans rfl
                  have fC_6 := (blk_cell NFC.out 6).trans rfl
                  have fzC := blk_frozen NFC.out 0
                  clear fB_0 fB_1 fB_2 fB_3 fB_4 fB_5 fB_6 fzB
                  go_wp2_with ((with_reducible refine gate_builtin (b := .append) (xs := #[.tmp 54, .tmp 56]) rfl ?_); at_builtin; refine Kd.R_append (ckFrozen k42 w) (w0 := WC) (b5 + 1) rfl (.tmp 54) (.tmp 56) 23 42 _ 120 rfl Try.underlying23 ckInfo rfl (show 0 < 7 by decide) (by omega) (.slice Av (ckTurnedL l1 ks i).length cv) (ckTurnedL l1 ks i) (ckTurned ks i x) [.int .i64 1, .int .i64 x.f1, .int .i64 x.f2, .slice B3 x.f3.length d3, .slice B4 x.f4.length d4, .slice B5 x.f5.length d5, .slice B6 x.f6.length d6] (fun _ => True) (fun _ => False) rfl rfl HM.out (fun _ hk => hk.elim) (fun _ _ => trivial) (Kd.R_step PO.out (fun k _ hlt => BFC.out.block k hlt)) (Below.refl _ _) (Nat.le_trans PZ.out BFC.out.size) (by have := HTN.out; have := HL.out; omega) ?_; intro v3 w3 ho hb hg hat; clear hg hat; rw [← HTL.out] at ho; obtain ⟨A9, c9, rfl⟩ := Kd.R_slice ho; have HO3 := Aside0.mk ho; have HB3 := Aside0.mk hb; have M5 := Aside0.mk ((hb.block b5 (Nat.lt_succ_self b5)).trans (blk_below P5.out BFC.out)); have M2 := Aside0.mk ((hb.block w.heap.size (by have := Z1.out; omega)).trans (blk_below P2.out BFC.out)); clear ho hb; have k1 := (blk_cell M5.out 1).trans rfl; have z1 := blk_frozen M5.out 1)
                  go_roundw
                  case rel => exact ⟨i + 1, A9, c9, by omega, by go_num, HFn, ⟨blk_put M5.out 1 _ rfl⟩, ⟨ckFar HO3.out (p := ⟨b5, 1, none⟩) (Nat.lt_succ_self b5) _⟩, ⟨blk_far M2.out (p := ⟨b5, 1, none⟩) (by have := Z1.out; show w.heap.size ≠ b5; omega) _⟩, ⟨((below_step PB.out BFC.out).trans (HB3.out.mono (by have := Z1.out; omega))).setCell (p := ⟨b5, 1, none⟩) (by have := Z1.out; show w.heap.size ≤ b5; omega) _⟩, ⟨by have h1 := Nat.le_trans PZ.out BFC.out.size; have h2 := HB3.out.size; have := Nat.le_trans h1 h2; simpa [World.setCell] using this⟩⟩
                  case measure => simp [intOf]; omega
                | false =>
                  rw [hkb] at kc
                  have hkv : ckKind ks i = 0 := by unfold ckKind; rw [hkb]; rfl
                  clear hkb
                  have HM := Aside0.mk (show k42.K w (ckTurned ks i x) [.int .i64 0, .int .i64 x.f1, .int .i64 x.f2, .slice B3 x.f3.length d3, .slice B4 x.f4.length d4, .slice B5 x.f5.length d5, .slice B6 x.f6.length d6] by rw [show ckTurned ks i x = ⟨0, x.f1, x.f2, x.f3, x.f4, x.f5, x.f6⟩ by unfold ckTurned; rw [hkv]]; exact k42_mk w ⟨0, x.f1, x.f2, x.f3, x.f4, x.f5, x.f6⟩ HS.out.1 HS.out.2.1 HS.out.2.2.1 HS.out.2.2.2.1 HS.out.2.2.2.2.1 HS.out.2.2.2.2.2.1 HS.out.2.2.2.2.2.2.1 HS.out.2.2.2.2.2.2.2)
                  clear hkv
                  have KC := Aside0.mk kc
                  go_upto_region 9 with fail
                  have BFA := Aside0.mk (show Below wr.heap.size wr (wr.alloc (.cells #[.int .i64 1, .int .i64 x.f1, .int .i64 x.f2, .slice B3 x.f3.length d3, .slice B4 x.f4.length d4, .slice B5 x.f5.length d5, .slice B6 x.f6.length d6] 42 (0, 0))) from below_alloc (Below.refl _ _) _)
                  have NFA := Aside0.mk (show (wr.alloc (.cells #[.int .i64 1, .int .i64 x.f1, .int .i64 x.f2, .slice B3 x.f3.length d3, .slice B4 x.f4.length d4, .slice B5 x.f5.length d5, .slice B6 x.f6.length d6] 42 (0, 0))).heap[wr.heap.size]? = some (.cells #[.int .i64 1, .int .i64 x.f1, .int .i64 x.f2, .slice B3 x.f3.length d3, .slice B4 x.f4.length d4, .slice B5 x.f5.length d5, .slice B6 x.f6.length d6] 42 (0, 0)) from blk_new wr _)
                  generalize (wr.alloc (.cells #[.int .i64 1, .int .i64 x.f1, .int .i64 x.f2, .slice B3 x.f3.length d3, .slice B4 x.f4.length d4, .slice B5 x.f5.length d5, .slice B6 x.f6.length d6] 42 (0, 0))) = WA at BFA NFA ⊢
                  replace p20 := (blk_cell (blk_below P2.out BFA.out) 0).trans rfl
                  replace p21 := (blk_cell (blk_below P2.out BFA.out) 1).trans rfl
                  replace p22 := (blk_cell (blk_below P2.out BFA.out) 2).trans rfl
                  replace p51 := (blk_cell (blk_below P5.out BFA.out) 1).trans rfl
                  replace pz51 := blk_frozen (blk_below P5.out BFA.out) 1
                  replace kc := pw_cell_below BFA.out KC.out
                  have fA_0 := (blk_cell NFA.out 0).trans rfl
                  have fA_1 := (blk_cell NFA.out 1).trans rfl
                  have fA_2 := (blk_cell NFA.out 2).trans rfl
                  have fA_3 := (blk_cell NFA.out 3).trans rfl
                  have fA_4 := (blk_cell NFA.out 4).trans rfl
                  have fA_5 := (blk_cell NFA.out 5).trans rfl
                  have fA_6 := (blk_cell NFA.out 6).trans rfl
                  have fzA := blk_frozen NFA.out 0
                  clear q0 q1 q2 q3 q4 q5 q6
                  go_upto_region 12 with fail
                  have BFB := Aside0.mk (BFA.out.setCell (p := ⟨wr.heap.size, 0, none⟩) (Nat.le_refl _) (.int .i64 0))
                  have NFB := Aside0.mk (blk_put NFA.out 0 (.int .i64 0) (cs' := #[.int .i64 0, .int .i64 x.f1, .int .i64 x.f2, .slice B3 x.f3.length d3, .slice B4 x.f4.length d4, .slice B5 x.f5.length d5, .slice B6 x.f6.length d6]) rfl)
                  generalize WA.setCell ⟨wr.heap.size, 0, none⟩ (.int .i64 0) = WB at BFB NFB ⊢
                  replace p20 := (blk_cell (blk_below P2.out BFB.out) 0).trans rfl
                  replace p21 := (blk_cell (blk_below P2.out BFB.out) 1).trans rfl
                  replace p22 := (blk_cell (blk_below P2.out BFB.out) 2).trans rfl
                  replace p51 := (blk_cell (blk_below P5.out BFB.out) 1).trans rfl
                  replace pz51 := blk_frozen (blk_below P5.out BFB.out) 1
                  replace kc := pw_cell_below BFB.out KC.out
                  have fB_0 := (blk_cell NFB.out 0).trans rfl
                  have fB_1 := (blk_cell NFB.out 1).trans rfl
                  have fB_2 := (blk_cell NFB.out 2).trans rfl
                  have fB_3 := (blk_cell NFB.out 3).trans rfl
                  have fB_4 := (blk_cell NFB.out 4).trans rfl
                  have fB_5 := (blk_cell NFB.out 5).trans rfl
                  have fB_6 := (blk_cell NFB.out 6).trans rfl
                  have fzB := blk_frozen NFB.out 0
                  clear fA_0 fA_1 fA_2 fA_3 fA_4 fA_5 fA_6 fzA
                  go_wp2_with ((with_reducible refine gate_builtin (b := .append) (xs := #[.tmp 54, .tmp 56]) rfl ?_); at_builtin; refine Kd.R_append (ckFrozen k42 w) (w0 := WB) (b5 + 1) rfl (.tmp 54) (.tmp 56) 23 42 _ 120 rfl Try.underlying23 ckInfo rfl (show 0 < 7 by decide) (by omega) (.slice Av (ckTurnedL l1 ks i).length cv) (ckTurnedL l1 ks i) (ckTurned ks i x) [.int .i64 0, .int .i64 x.f1, .int .i64 x.f2, .slice B3 x.f3.length d3, .slice B4 x.f4.length d4, .slice B5 x.f5.length d5, .slice B6 x.f6.length d6] (fun _ => True) (fun _ => False) rfl rfl HM.out (fun _ hk => hk.elim) (fun _ _ => trivial) (Kd.R_step PO.out (fun k _ hlt => BFB.out.block k hlt)) (Below.refl _ _) (Nat.le_trans PZ.out BFB.out.size) (by have := HTN.out; have := HL.out; omega) ?_; intro v3 w3 ho hb hg hat; clear hg hat; rw [← HTL.out] at ho; obtain ⟨A9, c9, rfl⟩ := Kd.R_slice ho; have HO3 := Aside0.mk ho; have HB3 := Aside0.mk hb; have M5 := Aside0.mk ((hb.block b5 (Nat.lt_succ_self b5)).trans (blk_below P5.out BFB.out)); have M2 := Aside0.mk ((hb.block w.heap.size (by have := Z1.out; omega)).trans (blk_below P2.out BFB.out)); clear ho hb; have k1 := (blk_cell M5.out 1).trans rfl; have z1 := blk_frozen M5.out 1)
                  go_roundw
                  case rel => exact ⟨i + 1, A9, c9, by omega, by go_num, HFn, ⟨blk_put M5.out 1 _ rfl⟩, ⟨ckFar HO3.out (p := ⟨b5, 1, none⟩) (Nat.lt_succ_self b5) _⟩, ⟨blk_far M2.out (p := ⟨b5, 1, none⟩) (by have := Z1.out; show w.heap.size ≠ b5; omega) _⟩, ⟨((below_step PB.out BFB.out).trans (HB3.out.mono (by have := Z1.out; omega))).setCell (p := ⟨b5, 1, none⟩) (by have := Z1.out; show w.heap.size ≤ b5; omega) _⟩, ⟨by have h1 := Nat.le_trans PZ.out BFB.out.size; have h2 := HB3.out.size; have := Nat.le_trans h1 h2; simpa [World.setCell] using this⟩⟩
                  case measure => simp [intOf]; omega
              · have hkv : ckKind ks i = 0 := by unfold ckKind; rw [List.getD_eq_getElem?_getD, List.getElem?_eq_none (by omega)]; rfl
                have HM := Aside0.mk (show k42.K w (ckTurned ks i x) [.int .i64 0, .int .i64 x.f1, .int .i64 x.f2, .slice B3 x.f3.length d3, .slice B4 x.f4.length d4, .slice B5 x.f5.length d5, .slice B6 x.f6.length d6] by rw [show ckTurned ks i x = ⟨0, x.f1, x.f2, x.f3, x.f4, x.f5, x.f6⟩ by unfold ckTurned; rw [hkv]]; exact k42_mk w ⟨0, x.f1, x.f2, x.f3, x.f4, x.f5, x.f6⟩ HS.out.1 HS.out.2.1 HS.out.2.2.1 HS.out.2.2.2.1 HS.out.2.2.2.2.1 HS.out.2.2.2.2.2.1 HS.out.2.2.2.2.2.2.1 HS.out.2.2.2.2.2.2.2)
                clear hkv
                go_upto_region 9 with fail
                have BFA := Aside0.mk (show Below wr.heap.size wr (wr.alloc (.cells #[.int .i64 1, .int .i64 x.f1, .int .i64 x.f2, .slice B3 x.f3.length d3, .slice B4 x.f4.length d4, .slice B5 x.f5.length d5, .slice B6 x.f6.length d6] 42 (0, 0))) from below_alloc (Below.refl _ _) _)
                have NFA := Aside0.mk (show (wr.alloc (.cells #[.int .i64 1, .int .i64 x.f1, .int .i64 x.f2, .slice B3 x.f3.length d3, .slice B4 x.f4.length d4, .slice B5 x.f5.length d5, .slice B6 x.f6.length d6] 42 (0, 0))).heap[wr.heap.size]? = some (.cells #[.int .i64 1, .int .i64 x.f1, .int .i64 x.f2, .slice B3 x.f3.length d3, .slice B4 x.f4.length d4, .slice B5 x.f5.length d5, .slice B6 x.f6.length d6] 42 (0, 0)) from blk_new wr _)
                generalize (wr.alloc (.cells #[.int .i64 1, .int .i64 x.f1, .int .i64 x.f2, .slice B3 x.f3.length d3, .slice B4 x.f4.length d4, .slice B5 x.f5.length d5, .slice B6 x.f6.length d6] 42 (0, 0))) = WA at BFA NFA ⊢
                replace p20 := (blk_cell (blk_below P2.out BFA.out) 0).trans rfl
                replace p21 := (blk_cell (blk_below P2.out BFA.out) 1).trans rfl
                replace p22 := (blk_cell (blk_below P2.out BFA.out) 2).trans rfl
                replace p51 := (blk_cell (blk_below P5.out BFA.out) 1).trans rfl
                replace pz51 := blk_frozen (blk_below P5.out BFA.out) 1
                have fA_0 := (blk_cell NFA.out 0).trans rfl
                have fA_1 := (blk_cell NFA.out 1).trans rfl
                have fA_2 := (blk_cell NFA.out 2).trans rfl
                have fA_3 := (blk_cell NFA.out 3).trans rfl
                have fA_4 := (blk_cell NFA.out 4).trans rfl
                have fA_5 := (blk_cell NFA.out 5).trans rfl
                have fA_6 := (blk_cell NFA.out 6).trans rfl
                have fzA := blk_frozen NFA.out 0
                clear q0 q1 q2 q3 q4 q5 q6
                go_upto_region 12 with fail
                have BFB := Aside0.mk (BFA.out.setCell (p := ⟨wr.heap.size, 0, none⟩) (Nat.le_refl _) (.int .i64 0))
                have NFB := Aside0.mk (blk_put NFA.out 0 (.int .i64 0) (cs' := #[.int .i64 0, .int .i64 x.f1, .int .i64 x.f2, .slice B3 x.f3.length d3, .slice B4 x.f4.length d4, .slice B5 x.f5.length d5, .slice B6 x.f6.length d6]) rfl)
                generalize WA.setCell ⟨wr.heap.size, 0, none⟩ (.int .i64 0) = WB at BFB NFB ⊢
                replace p20 := (blk_cell (blk_below P2.out BFB.out) 0).trans rfl
                replace p21 := (blk_cell (blk_below P2.out BFB.out) 1).trans rfl
                replace p22 := (blk_cell (blk_below P2.out BFB.out) 2).trans rfl
                replace p51 := (blk_cell (blk_below P5.out BFB.out) 1).trans rfl
                replace pz51 := blk_frozen (blk_below P5.out BFB.out) 1
                have fB_0 := (blk_cell NFB.out 0).trans rfl
                have fB_1 := (blk_cell NFB.out 1).trans rfl
                have fB_2 := (blk_cell NFB.out 2).trans rfl
                have fB_3 := (blk_cell NFB.out 3).trans rfl
                have fB_4 := (blk_cell NFB.out 4).trans rfl
                have fB_5 := (blk_cell NFB.out 5).trans rfl
                have fB_6 := (blk_cell NFB.out 6).trans rfl
                have fzB := blk_frozen NFB.out 0
                clear fA_0 fA_1 fA_2 fA_3 fA_4 fA_5 fA_6 fzA
                go_wp2_with ((with_reducible refine gate_builtin (b := .append) (xs := #[.tmp 54, .tmp 56]) rfl ?_); at_builtin; refine Kd.R_append (ckFrozen k42 w) (w0 := WB) (b5 + 1) rfl (.tmp 54) (.tmp 56) 23 42 _ 120 rfl Try.underlying23 ckInfo rfl (show 0 < 7 by decide) (by omega) (.slice Av (ckTurnedL l1 ks i).length cv) (ckTurnedL l1 ks i) (ckTurned ks i x) [.int .i64 0, .int .i64 x.f1, .int .i64 x.f2, .slice B3 x.f3.length d3, .slice B4 x.f4.length d4, .slice B5 x.f5.length d5, .slice B6 x.f6.length d6] (fun _ => True) (fun _ => False) rfl rfl HM.out (fun _ hk => hk.elim) (fun _ _ => trivial) (Kd.R_step PO.out (fun k _ hlt => BFB.out.block k hlt)) (Below.refl _ _) (Nat.le_trans PZ.out BFB.out.size) (by have := HTN.out; have := HL.out; omega) ?_; intro v3 w3 ho hb hg hat; clear hg hat; rw [← HTL.out] at ho; obtain ⟨A9, c9, rfl⟩ := Kd.R_slice ho; have HO3 := Aside0.mk ho; have HB3 := Aside0.mk hb; have M5 := Aside0.mk ((hb.block b5 (Nat.lt_succ_self b5)).trans (blk_below P5.out BFB.out)); have M2 := Aside0.mk ((hb.block w.heap.size (by have := Z1.out; omega)).trans (blk_below P2.out BFB.out)); clear ho hb; have k1 := (blk_cell M5.out 1).trans rfl; have z1 := blk_frozen M5.out 1)
                go_roundw
                case rel => exact ⟨i + 1, A9, c9, by omega, by go_num, HFn, ⟨blk_put M5.out 1 _ rfl⟩, ⟨ckFar HO3.out (p := ⟨b5, 1, none⟩) (Nat.lt_succ_self b5) _⟩, ⟨blk_far M2.out (p := ⟨b5, 1, none⟩) (by have := Z1.out; show w.heap.size ≠ b5; omega) _⟩, ⟨((below_step PB.out BFB.out).trans (HB3.out.mono (by have := Z1.out; omega))).setCell (p := ⟨b5, 1, none⟩) (by have := Z1.out; show w.heap.size ≤ b5; omega) _⟩, ⟨by have h1 := Nat.le_trans PZ.out BFB.out.size; have h2 := HB3.out.size; have := Nat.le_trans h1 h2; simpa [World.setCell] using this⟩⟩
                case measure => simp [intOf]; omega
            · have e0 : (x.f0 != 0) = true := bne_iff_ne.mpr h0
              have e1 : (x.f0 != 1) = true := bne_iff_ne.mpr h1
              clear h0 h1 HFs
              go_wp2_with (go_at_call 12; refine (CSh.out _).mono ?_; rintro e w9 ⟨rfl, hb⟩; have B9 := Aside0.mk (below_step (below_alloc PB.out _) hb); clear hb)
              go_ret
              exact ⟨rfl, B9.out⟩
        · obtain rfl : i = l1.length := by omega
          obtain ⟨n, e, m, E1, E2, E3, E4⟩ := HF.out HFi.out
          have hRR := Kd.R_reads' PO.out
          have HC := Aside0.mk (And.intro (ckThaw hRR.2.2 PB.out) hRR.2.1)
          have CK1 := Aside0.mk (fun W (hW : Below wr.heap.size wr W) => config_Check.calls A0 c0 l0 A1 c1 l1 a0 n e W (Kd.C_below H0.out.1 (below_step PB.out hW)) H0.out.2 (Kd.C_below H1.out.1 (below_step PB.out hW)) H1.out.2 E1)
          have CK2 := Aside0.mk (fun W (hW : Below wr.heap.size wr W) => config_Check.calls A0 c0 l0 Av cv (ckTurnedL l1 ks l1.length) a0 n e W (Kd.C_below H0.out.1 (below_step PB.out hW)) H0.out.2 (Kd.C_below HC.out.1 hW) HC.out.2 E2)
          have CK3 := Aside0.mk (fun W (hW : Below wr.heap.size wr W) => pacelineref08_Check.calls k A0 c0 l0 A1 c1 l1 a0 m e W (Kd.C_below H0.out.1 (below_step PB.out hW)) H0.out.2 (Kd.C_below H1.out.1 (below_step PB.out hW)) H1.out.2 E3)
          have Q20 := Aside0.mk p20
          have Q21 := Aside0.mk p21
          have Q22 := Aside0.mk p22
          have Q50 := Aside0.mk p50
          have Q51 := Aside0.mk p51
          have Q52 := Aside0.mk p52
          clear E1 E2 E3 hRR hlt hi HFi HF
          by_cases he : e = 0
          · subst he
            obtain ⟨L, E5, E6, E7⟩ := E4 rfl
            have CS1 := Aside0.mk (fun W (hW : Below wr.heap.size wr W) => config_Starts.calls k A0 c0 l0 A1 c1 l1 a0 L W (Kd.C_below H0.out.1 (below_step PB.out hW)) H0.out.2 (Kd.C_below H1.out.1 (below_step PB.out hW)) H1.out.2 E5)
            have CS2 := Aside0.mk (fun W (hW : Below wr.heap.size wr W) => config_Starts.calls k A0 c0 l0 Av cv (ckTurnedL l1 ks l1.length) a0 L W (Kd.C_below H0.out.1 (below_step PB.out hW)) H0.out.2 (Kd.C_below HC.out.1 hW) HC.out.2 E6)
            have CS3 := Aside0.mk (fun A B c d W h1 h2 h3 h4 => pacelinelaw08_same.calls k A c L B d L true W h1 h2 h3 h4 E7)
            clear E4 E5 E6 E7
            go_upto_region 20 with (first | (go_at_call 10; (with_reducible refine (CK1.out _ (Below.refl _ _)).mono ?_); rintro _ wa ⟨rfl, hb⟩; have Ba := Aside0.mk hb; clear hb; replace p20 := pw_cell_below Ba.out Q20.out; replace p21 := pw_cell_below Ba.out Q21.out; replace p22 := pw_cell_below Ba.out Q22.out; replace p50 := pw_cell_below Ba.out Q50.out; replace p51 := pw_cell_below Ba.out Q51.out; replace p52 := pw_cell_below Ba.out Q52.out) | (go_at_call 10; (with_reducible refine (CK2.out _ Ba.out).mono ?_); rintro _ wb ⟨rfl, hb⟩; have Bb := Aside0.mk (below_step Ba.out hb); clear hb; replace p20 := pw_cell_below Bb.out Q20.out; replace p21 := pw_cell_below Bb.out Q21.out; replace p22 := pw_cell_below Bb.out Q22.out; replace p50 := pw_cell_below Bb.out Q50.out; replace p51 := pw_cell_below Bb.out Q51.out; replace p52 := pw_cell_below Bb.out Q52.out) | (go_at_call 11; (with_reducible refine (CK3.out _ Bb.out).mono ?_); rintro _ wc ⟨rfl, hb⟩; have Bc := Aside0.mk (below_step Bb.out hb); clear hb; replace p20 := pw_cell_below Bc.out Q20.out; replace p21 := pw_cell_below Bc.out Q21.out; replace p22 := pw_cell_below Bc.out Q22.out; replace p50 := pw_cell_below Bc.out Q50.out; replace p51 := pw_cell_below Bc.out Q51.out; replace p52 := pw_cell_below Bc.out Q52.out) | (go_at_call 12; (with_reducible refine (CSh.out _).mono ?_); rintro _ wd ⟨rfl, hb⟩; have Bd := Aside0.mk (below_step Bc.out hb); clear hb; replace p20 := pw_cell_below Bd.out Q20.out; replace p21 := pw_cell_below Bd.out Q21.out; replace p22 := pw_cell_below Bd.out Q22.out; replace p50 := pw_cell_below Bd.out Q50.out; replace p51 := pw_cell_below Bd.out Q51.out; replace p52 := pw_cell_below Bd.out Q52.out))
            have Be := Aside0.mk (below_drew Bd.out)
            go_region_with (first | (go_at_call 18; (with_reducible refine (CS1.out _ (by first | exact Be.out | exact Ht.out)).mono ?_); rintro _ ws ⟨v, rfl, ho, hb⟩; obtain ⟨As, cs, rfl⟩ := Kd.R_slice ho; have Os := Aside0.mk (Kd.R_reads' ho); have Ds := Aside0.mk hb; have Hs := Aside0.mk (below_step (by first | exact Be.out | exact Ht.out) hb); clear ho hb; have s20 := pw_cell_below Hs.out Q20.out; have s21 := pw_cell_below Hs.out Q21.out; have s22 := pw_cell_below Hs.out Q22.out; have s50 := pw_cell_below Hs.out Q50.out; have s51 := pw_cell_below Hs.out Q51.out; have s52 := pw_cell_below Hs.out Q52.out) | (go_at_call 18; (with_reducible refine (CS2.out _ (by first | exact Be.out | exact Hs.out)).mono ?_); rintro _ wt ⟨v, rfl, ho, hb⟩; obtain ⟨At, ct, rfl⟩ := Kd.R_slice ho; have Ot := Aside0.mk (Kd.R_reads' ho); have Dt := Aside0.mk hb; have Ht := Aside0.mk (below_step (by first | exact Be.out | exact Hs.out) hb); clear ho hb; have t20 := pw_cell_below Ht.out Q20.out; have t21 := pw_cell_below Ht.out Q21.out; have t22 := pw_cell_below Ht.out Q22.out; have t50 := pw_cell_below Ht.out Q50.out; have t51 := pw_cell_below Ht.out Q51.out; have t52 := pw_cell_below Ht.out Q52.out) | (go_at_call 15; (with_reducible refine (CS3.out _ _ _ _ _ (by first | exact Kd.C_below Os.out.2.2 Dt.out | exact Os.out.2.2) Os.out.2.1 (by first | exact Kd.C_below Ot.out.2.2 Ds.out | exact Ot.out.2.2) Ot.out.2.1).mono ?_); rintro _ wu ⟨rfl, hb⟩; have Bu := Aside0.mk (below_step (by first | exact (below_step Hs.out Dt.out) | exact (below_step Ht.out Ds.out)) hb.below); clear hb))
            all_goals go_wp2
            all_goals go_ret
            all_goals exact ⟨rfl, below_step PB.out Bu.out⟩
          · have e1 : (e != 0) = true := bne_iff_ne.mpr he
            clear E4 he
            go_upto_region 20 with (first | (go_at_call 10; (with_reducible refine (CK1.out _ (Below.refl _ _)).mono ?_); rintro _ wa ⟨rfl, hb⟩; have Ba := Aside0.mk hb; clear hb; replace p20 := pw_cell_below Ba.out Q20.out; replace p21 := pw_cell_below Ba.out Q21.out; replace p22 := pw_cell_below Ba.out Q22.out; replace p50 := pw_cell_below Ba.out Q50.out; replace p51 := pw_cell_below Ba.out Q51.out; replace p52 := pw_cell_below Ba.out Q52.out) | (go_at_call 10; (with_reducible refine (CK2.out _ Ba.out).mono ?_); rintro _ wb ⟨rfl, hb⟩; have Bb := Aside0.mk (below_step Ba.out hb); clear hb; replace p20 := pw_cell_below Bb.out Q20.out; replace p21 := pw_cell_below Bb.out Q21.out; replace p22 := pw_cell_below Bb.out Q22.out; replace p50 := pw_cell_below Bb.out Q50.out; replace p51 := pw_cell_below Bb.out Q51.out; replace p52 := pw_cell_below Bb.out Q52.out) | (go_at_call 11; (with_reducible refine (CK3.out _ Bb.out).mono ?_); rintro _ wc ⟨rfl, hb⟩; have Bc := Aside0.mk (below_step Bb.out hb); clear hb; replace p20 := pw_cell_below Bc.out Q20.out; replace p21 := pw_cell_below Bc.out Q21.out; replace p22 := pw_cell_below Bc.out Q22.out; replace p50 := pw_cell_below Bc.out Q50.out; replace p51 := pw_cell_below Bc.out Q51.out; replace p52 := pw_cell_below Bc.out Q52.out) | (go_at_call 12; (with_reducible refine (CSh.out _).mono ?_); rintro _ wd ⟨rfl, hb⟩; have Bd := Aside0.mk (below_step Bc.out hb); clear hb; replace p20 := pw_cell_below Bd.out Q20.out; replace p21 := pw_cell_below Bd.out Q21.out; replace p22 := pw_cell_below Bd.out Q22.out; replace p50 := pw_cell_below Bd.out Q50.out; replace p51 := pw_cell_below Bd.out Q51.out; replace p52 := pw_cell_below Bd.out Q52.out))
            go_quiet (fail)
            go_wp2
            go_ret
            exact ⟨rfl, below_step PB.out (pw_below_drewN Bd.out _)⟩
  · cases h


/-- THE ONE PURE STATEMENT of pacelinelaw08_ConfigKinds. -/
def pacelinelaw08_ConfigKinds.Pure : Prop := ∀ (l0_0 : List Int) (l0_1 : List (S42)) (a0_2 : Int) (l1 : List Bool), OkAll (fun n_ => (Lit.int .i64 n_).wf = true) l0_0 → OkAll (ok42) l0_1 → (Lit.int .i64 a0_2).wf = true → OkAll (fun _ => True) l1 → ∃ k, pacelinelaw08_ConfigKinds.f k l0_0 l0_1 a0_2 l1 = some true
end Go.Proofs.Ytdlagficilbbbaa.PConfigKinds
