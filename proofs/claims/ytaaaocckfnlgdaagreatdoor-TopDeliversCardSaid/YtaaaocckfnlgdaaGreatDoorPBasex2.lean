-- Written by gp.py (this project's driver over the kit's print) out of the translation and wip/given; Lean checks it.
import Derived.Test.YtaaaocckfnlgdaaGreatDoorPBasex0
import Derived.Test.YtaaaocckfnlgdaaGreatDoorPBasex1
namespace Go.Proofs.YtaaaocckfnlgdaaGreatDoor.PBase
open Go.RowKit Go.Proofs.YtaaaocckfnlgdaaGreatDoorR Go.Proofs.YtaaaocckfnlgdaaGreatDoorW.PrintWords Go.Proofs.YtaaaocckfnlgdaaGreatDoorW.PrintLast Go.Proofs.YtaaaocckfnlgdaaGreatDoorW.PrintMore
attribute [local go_sem] max2_int min2_int max_two min_two max_three min_three max_four min_four   -- for this text's walks alone
set_option linter.unusedVariables false
set_option linter.unusedSimpArgs false

/-! ### lbts_Outputs: function 27 (by hand) -/
/-- The least open one's place; -1. -/
def lbts_Outputs.best (os : List Bool) (xs : List Int) : Nat → Int
  | 0 => -1
  | k + 1 => if os.getD k false && (decide (lbts_Outputs.best os xs k < 0) || decide (xs.getD k 0 < xs.getD (lbts_Outputs.best os xs k).toNat 0)) then (k : Int) else lbts_Outputs.best os xs k
theorem lbts_Outputs.best_range (os : List Bool) (xs : List Int) (k : Nat) : -1 ≤ lbts_Outputs.best os xs k ∧ lbts_Outputs.best os xs k < (k : Int) := by
  induction k with
  | zero => exact ⟨Int.le_refl _, by show (-1 : Int) < 0; omega⟩
  | succ k ih =>
    rw [lbts_Outputs.best]
    split <;> omega
theorem lbts_Outputs.bool_at {w : World} {A : Option Addr} {n : Nat} {xs : List Bool} (h : Kd.C Kd.bool w A n xs) {k : Nat} (hk : k < n) : ∃ ad, A = some ad ∧ w.cell? (ad.add k) = some (.bool (xs.getD k false)) := by
  obtain ⟨ad, c, e, _, hK, hc⟩ := Kd.C_get h false (k : Int) (by omega) (by omega)
  obtain rfl := hK
  refine ⟨ad, e, ?_⟩
  have h0 : w.cell? (ad.add ((k : Int).toNat * 1 + 0)) = some (.bool (xs.getD (k : Int).toNat false)) := hc 0 _ rfl
  simpa using h0
theorem lbts_Outputs.int_at {w : World} {A : Option Addr} {n : Nat} {xs : List Int} (h : Kd.C (Kd.int .i64) w A n xs) {k : Nat} (hk : k < n) : ∃ ad, A = some ad ∧ w.cell? (ad.add k) = some (.int .i64 (xs.getD k 0)) := by
  obtain ⟨ad, c, e, _, hK, hc⟩ := Kd.C_get h (0 : Int) (k : Int) (by omega) (by omega)
  obtain rfl := hK
  refine ⟨ad, e, ?_⟩
  have h0 : w.cell? (ad.add ((k : Int).toNat * 1 + 0)) = some (.int .i64 (xs.getD (k : Int).toNat 0)) := hc 0 _ rfl
  simpa using h0
set_option maxRecDepth 100000 in
set_option maxHeartbeats 4000000 in
theorem lbts_Outputs.least (os : List Bool) (xs : List Int) (n : Nat) (hn : n ≤ 1000000) (Bl Bo Bx : Nat) (A Ao Ax : Option Addr) (c co cx : Nat) (w : World)
    (h1 : w.cell? ⟨Bl, 0, none⟩ = some (.slice A n c)) (h2 : w.cell? ⟨Bo, 0, none⟩ = some (.slice Ao n co)) (h3 : w.cell? ⟨Bx, 0, none⟩ = some (.slice Ax n cx)) (ho : Kd.C Kd.bool w Ao n os) (hx : Kd.C (Kd.int .i64) w Ax n xs) :
    Calls Tryz.prog 50 #[.pointer (some ⟨Bl, 0, none⟩), .pointer (some ⟨Bo, 0, none⟩), .pointer (some ⟨Bx, 0, none⟩)] w fun e w' => e = .returned (.int .i64 (lbts_Outputs.best os xs n)) ∧ Drawn0 w w' := by
  have HO := Aside0.mk ho
  have HX := Aside0.mk hx
  have H2 := Aside0.mk h2
  have H3 := Aside0.mk h3
  clear ho hx h2 h3
  go_enter Tryz.func50, Tryz.ntmps50
  go_wp2
  go_loopg [4, 8] n (fun gg s4 s8 wr => ∃ kk : Nat, kk ≤ n ∧ n - kk ≤ gg ∧ s8 = .int .i64 kk ∧ s4 = .int .i64 (lbts_Outputs.best os xs kk) ∧ Aside0 (Drawn0 w wr))
  case atStart => exact ⟨0, Nat.zero_le _, by omega, rfl, rfl, ⟨Drawn0.refl w⟩⟩
  case round =>
    obtain ⟨kk, hkk, hg, rfl, rfl, DW⟩ := hrel
    by_cases hlt : kk < n
    · have hltz : (kk : Int) < (n : Int) := by omega
      have hbr := lbts_Outputs.best_range os xs kk
      obtain ⟨ao, rfl, c1⟩ := lbts_Outputs.bool_at HO.out hlt
      obtain ⟨ax, rfl, c2⟩ := lbts_Outputs.int_at HX.out hlt
      have c3 := lbts_Outputs.int_at (k := (lbts_Outputs.best os xs kk).toNat) HX.out (by omega)
      have hst : lbts_Outputs.best os xs (kk + 1) = if os.getD kk false && (decide (lbts_Outputs.best os xs kk < 0) || decide (xs.getD kk 0 < xs.getD (lbts_Outputs.best os xs kk).toNat 0)) then (kk : Int) else lbts_Outputs.best os xs kk := rfl
      obtain ⟨_, ⟨⟩, c3⟩ := c3
      have d1 := H2.out
      have d2 := H3.out
      have HN := Aside0.mk hkk
      have hk2 : n - (kk + 1) ≤ gk - 1 := by omega
      generalize hb : lbts_Outputs.best os xs kk = b at *
      have hb0 := Aside0.mk hb
      clear hb hkk
      obtain ⟨⟨nd, rfl⟩⟩ := DW.out
      have hk0 : (0 : Int) ≤ (kk : Int) := Int.natCast_nonneg kk
      have hbn : b < (n : Int) := by omega
      have HG := Aside0.mk hg
      clear hg
      generalize hp : xs.getD kk 0 = p at *
      generalize hq : xs.getD b.toNat 0 = q at *
      clear hp hq
      by_cases ho : os.getD kk false = true
      · rw [ho] at c1 hst
        clear ho
        by_cases hneg : b < 0
        · have HST : Aside0 (lbts_Outputs.best os xs (kk + 1) = (kk : Int)) := ⟨by rw [hst]; simp [hneg]⟩
          clear hst
          go_wp2
          go_quiet (fail)
          go_wp2
          go_roundg (n - (kk + 1))
          case measure => have := HG.out; omega
          case rel => exact ⟨kk + 1, by omega, by omega, by go_num, by rw [HST.out], ⟨⟨_, rfl⟩⟩⟩
        · have hb1 : (0 : Int) ≤ b := by omega
          by_cases hpq : p < q
          · have HST : Aside0 (lbts_Outputs.best os xs (kk + 1) = (kk : Int)) := ⟨by rw [hst]; simp [hpq]⟩
            clear hst
            go_wp2
            go_quiet (fail)
            go_wp2
            go_roundg (n - (kk + 1))
            case measure => have := HG.out; omega
            case rel => exact ⟨kk + 1, by omega, by omega, by go_num, by rw [HST.out], ⟨⟨_, rfl⟩⟩⟩
          · have HST : Aside0 (lbts_Outputs.best os xs (kk + 1) = b) := ⟨by rw [hst]; simp [hneg, hpq]⟩
            clear hst
            go_wp2
            go_quiet (fail)
            go_wp2
            go_roundg (n - (kk + 1))
            case measure => have := HG.out; omega
            case rel => exact ⟨kk + 1, by omega, by omega, by go_num, by rw [HST.out], ⟨⟨_, rfl⟩⟩⟩
      · replace ho := Bool.eq_false_iff.mpr ho
        rw [ho] at c1 hst
        clear ho
        have HST : Aside0 (lbts_Outputs.best os xs (kk + 1) = b) := ⟨by rw [hst]; simp⟩
        clear hst
        go_wp2
        go_quiet (fail)
        go_wp2
        go_roundg (n - (kk + 1))
        case measure => have := HG.out; omega
        case rel => exact ⟨kk + 1, by omega, by omega, by go_num, by rw [HST.out], ⟨⟨_, rfl⟩⟩⟩
    · have hltz : ¬ (kk : Int) < (n : Int) := by omega
      have hkl : kk = n := by omega
      have HN : Aside0 (lbts_Outputs.best os xs kk = lbts_Outputs.best os xs n) := ⟨by rw [hkl]⟩
      clear hkl
      go_wp2
      go_ret
      refine ⟨?_, DW.out⟩
      rw [← HN.out]
      rfl
/-! What the call's six blocks hold. -/
structure lbts_Outputs.St (w : World) (Bl Bx Bo gx go gh : Nat) (A : Option Addr) (n c : Nat) (xs : List Int) (os hs : List Bool) : Prop where
  bl : w.heap[Bl]? = some (.cells #[.slice A n c] 73 (0, 0))
  bx : w.heap[Bx]? = some (.cells #[.slice (some ⟨gx, 0, none⟩) n n] 35 (0, 0))
  bo : w.heap[Bo]? = some (.cells #[.slice (some ⟨go, 0, none⟩) n n] 106 (0, 0))
  x : w.heap[gx]? = some (.cells (xs.map (Value.int .i64)).toArray 3 (0, 0))
  o : w.heap[go]? = some (.cells (os.map Value.bool).toArray 4 (0, 0))
  h : w.heap[gh]? = some (.cells (hs.map Value.bool).toArray 4 (0, 0))
  ne : go ≠ gh
  lx : xs.length = n
  lo : os.length = n
  lh : hs.length = n
namespace lbts_Outputs.St
open lbts_Outputs
variable {w w1 : World} {Bl Bx Bo gx go gh : Nat} {A : Option Addr} {n c : Nat} {xs : List Int} {os hs : List Bool}
theorem below (H : St w Bl Bx Bo gx go gh A n c xs os hs) (hb : Below w.heap.size w w1) : St w1 Bl Bx Bo gx go gh A n c xs os hs :=
  ⟨blk_below H.bl hb, blk_below H.bx hb, blk_below H.bo hb, blk_below H.x hb, blk_below H.o hb, blk_below H.h hb, H.ne, H.lx, H.lo, H.lh⟩
theorem setx (H : St w Bl Bx Bo gx go gh A n c xs os hs) (i : Nat) (v : Int) : St (w.setCell ⟨gx, i, none⟩ (.int .i64 v)) Bl Bx Bo gx go gh A n c (xs.set i v) os hs where
  bl := blk_far H.bl (blk_ne H.bl H.x (by decide)) _
  bx := blk_far H.bx (blk_ne H.bx H.x (by decide)) _
  bo := blk_far H.bo (blk_ne H.bo H.x (by decide)) _
  x := blk_put H.x i _ (by simp)
  o := blk_far H.o (blk_ne H.o H.x (by decide)) _
  h := blk_far H.h (blk_ne H.h H.x (by decide)) _
  ne := H.ne
  lx := by rw [List.length_set]; exact H.lx
  lo := H.lo
  lh := H.lh
theorem seto (H : St w Bl Bx Bo gx go gh A n c xs os hs) (i : Nat) (v : Bool) : St (w.setCell ⟨go, i, none⟩ (.bool v)) Bl Bx Bo gx go gh A n c xs (os.set i v) hs where
  bl := blk_far H.bl (blk_ne H.bl H.o (by decide)) _
  bx := blk_far H.bx (blk_ne H.bx H.o (by decide)) _
  bo := blk_far H.bo (blk_ne H.bo H.o (by decide)) _
  x := blk_far H.x (blk_ne H.x H.o (by decide)) _
  o := blk_put H.o i _ (by simp)
  h := blk_far H.h (Ne.symm H.ne) _
  ne := H.ne
  lx := H.lx
  lo := by rw [List.length_set]; exact H.lo
  lh := H.lh
theorem seth (H : St w Bl Bx Bo gx go gh A n c xs os hs) (i : Nat) (v : Bool) : St (w.setCell ⟨gh, i, none⟩ (.bool v)) Bl Bx Bo gx go gh A n c xs os (hs.set i v) where
  bl := blk_far H.bl (blk_ne H.bl H.h (by decide)) _
  bx := blk_far H.bx (blk_ne H.bx H.h (by decide)) _
  bo := blk_far H.bo (blk_ne H.bo H.h (by decide)) _
  x := blk_far H.x (blk_ne H.x H.h (by decide)) _
  o := blk_far H.o H.ne _
  h := blk_put H.h i _ (by simp)
  ne := H.ne
  lx := H.lx
  lo := H.lo
  lh := by rw [List.length_set]; exact H.lh
theorem cbl (H : St w Bl Bx Bo gx go gh A n c xs os hs) : w.cell? ⟨Bl, 0, none⟩ = some (.slice A n c) := (blk_cell H.bl 0).trans rfl
theorem cbx (H : St w Bl Bx Bo gx go gh A n c xs os hs) : w.cell? ⟨Bx, 0, none⟩ = some (.slice (some ⟨gx, 0, none⟩) n n) := (blk_cell H.bx 0).trans rfl
theorem cbo (H : St w Bl Bx Bo gx go gh A n c xs os hs) : w.cell? ⟨Bo, 0, none⟩ = some (.slice (some ⟨go, 0, none⟩) n n) := (blk_cell H.bo 0).trans rfl
theorem cx (H : St w Bl Bx Bo gx go gh A n c xs os hs) {i : Nat} (hi : i < n) : w.cell? ⟨gx, i, none⟩ = some (.int .i64 (xs.getD i 0)) := by
  rw [blk_cell H.x i]
  have := H.lx
  simp [List.getElem?_eq_getElem (show i < xs.length by omega)]
theorem co (H : St w Bl Bx Bo gx go gh A n c xs os hs) {i : Nat} (hi : i < n) : w.cell? ⟨go, i, none⟩ = some (.bool (os.getD i false)) := by
  rw [blk_cell H.o i]
  have := H.lo
  simp [List.getElem?_eq_getElem (show i < os.length by omega)]
theorem ch (H : St w Bl Bx Bo gx go gh A n c xs os hs) {i : Nat} (hi : i < n) : w.cell? ⟨gh, i, none⟩ = some (.bool (hs.getD i false)) := by
  rw [blk_cell H.h i]
  have := H.lh
  simp [List.getElem?_eq_getElem (show i < hs.length by omega)]
theorem Cx (H : St w Bl Bx Bo gx go gh A n c xs os hs) (hm : n ≤ 9223372036854775807) : Kd.C (Kd.int .i64) w (some ⟨gx, 0, none⟩) n xs :=
  ⟨H.lx, hm, fun _ => ⟨_, rfl, fun j x hj => ⟨[.int .i64 x], rfl, rfl, fun i u hu => by
    obtain ⟨hjl, rfl⟩ := List.getElem?_eq_some_iff.1 hj
    cases i with
    | zero =>
      simp at hu
      subst hu
      have := H.cx (i := j) (by have := H.lx; omega)
      show w.cell? ((⟨gx, 0, none⟩ : Addr).add (j * 1 + 0)) = _
      simpa [add_plain, List.getElem?_eq_getElem hjl] using this
    | succ i => simp at hu⟩⟩⟩
theorem Co (H : St w Bl Bx Bo gx go gh A n c xs os hs) (hm : n ≤ 9223372036854775807) : Kd.C Kd.bool w (some ⟨go, 0, none⟩) n os :=
  ⟨H.lo, hm, fun _ => ⟨_, rfl, fun j x hj => ⟨[.bool x], rfl, rfl, fun i u hu => by
    obtain ⟨hjl, rfl⟩ := List.getElem?_eq_some_iff.1 hj
    cases i with
    | zero =>
      simp at hu
      subst hu
      have := H.co (i := j) (by have := H.lo; omega)
      show w.cell? ((⟨go, 0, none⟩ : Addr).add (j * 1 + 0)) = _
      simpa [add_plain, List.getElem?_eq_getElem hjl] using this
    | succ i => simp at hu⟩⟩⟩
end lbts_Outputs.St
section
open Go.Proofs.YtaaaocckfnlgdaaGreatDoorH
/-! A scope with one label, by a number of one's own. -/
theorem lbts_Outputs.least_of {p : Nat → Prop} (h : ∃ k, p k) : ∃ k, p k ∧ ∀ k', p k' → k ≤ k' := by
  obtain ⟨k, hk⟩ := h
  induction k using Nat.strongRecOn with
  | _ k ih =>
    by_cases h : ∃ k', k' < k ∧ p k'
    · obtain ⟨k', hlt, hp⟩ := h
      exact ih k' hlt hp
    · exact ⟨k, hk, fun k' hp => Nat.le_of_not_lt fun hlt => h ⟨k', hlt, hp⟩⟩
open Classical in
noncomputable def lbts_Outputs.low (p : Nat → Prop) : Nat := if h : ∃ k, p k then (lbts_Outputs.least_of h).choose else 0
theorem lbts_Outputs.low_spec {p : Nat → Prop} (h : ∃ k, p k) : p (lbts_Outputs.low p) ∧ ∀ k', p k' → lbts_Outputs.low p ≤ k' := by
  unfold lbts_Outputs.low
  rw [dif_pos h]
  exact (lbts_Outputs.least_of h).choose_spec
theorem lbts_Outputs.jump_mono {l : Nat} {J J' : Act → World → Prop} {Q : Exit → Act → World → Prop} (hJ : ∀ a w, J a w → J' a w) : ∀ e a w, Exit.jump l J Q e a w → Exit.jump l J' Q e a w := by
  intro e a w h
  cases e with
  | goto l' => exact ⟨h.1, hJ _ _ h.2⟩
  | _ => exact h
theorem lbts_Outputs.scope {P : Program} {a : Act} {w : World} {Q : Exit → Act → World → Prop} {c rest : Code} (l : Nat) (J : Nat → Act → World → Prop) (hf : findLabel c l = some (Code.skip.seq rest))
    (pass : ∀ k a w, J k a w → rest.wp P (Exit.jump l (fun a' w' => ∃ k', k' < k ∧ J k' a' w') Q) a w)
    (first : (∀ k a w, J k a w → rest.wp P (Exit.jump l (fun a' w' => ∃ k', J k' a' w') Q) a w) → c.wp P (Exit.jump l (fun a' w' => ∃ k', J k' a' w') Q) a w) : (Code.scope c).wp P Q a w := by
  refine wp_scope_jumps l (fun a w => ∃ k, J k a w) (fun a w => lbts_Outputs.low (fun k => J k a w)) hf (first fun k a w h => wp_mono (pass k a w h) (lbts_Outputs.jump_mono fun a w h => by obtain ⟨k', _, h⟩ := h; exact ⟨k', h⟩)) ?_
  intro a w hJ
  obtain ⟨h1, h2⟩ := lbts_Outputs.low_spec hJ
  refine wp_seq (wp_skip ?_)
  refine wp_mono (pass _ a w h1) (lbts_Outputs.jump_mono fun a' w' h => ?_)
  obtain ⟨k', hlt, h'⟩ := h
  exact ⟨⟨k', h'⟩, Nat.lt_of_le_of_lt ((lbts_Outputs.low_spec ⟨k', h'⟩).2 k' h') hlt⟩
theorem lbts_Outputs.jump_normal {l : Nat} {J : Act → World → Prop} {Q : Exit → Act → World → Prop} {a : Act} {w : World} : Exit.jump l J Q .normal a w = Q .normal a w := rfl
theorem lbts_Outputs.jump_ret {l : Nat} {J : Act → World → Prop} {Q : Exit → Act → World → Prop} {a : Act} {w : World} : Exit.jump l J Q .ret a w = Q .ret a w := rfl
theorem lbts_Outputs.jump_goto {l : Nat} {J : Act → World → Prop} {Q : Exit → Act → World → Prop} {a : Act} {w : World} (h : J a w) : Exit.jump l J Q (.goto l) a w := ⟨rfl, h⟩
theorem lbts_Outputs.St.R {w : World} {Bl Bx Bo gx go gh : Nat} {A : Option Addr} {n c base : Nat} {xs : List Int} {os hs : List Bool} (H : lbts_Outputs.St w Bl Bx Bo gx go gh A n c xs os hs) (hb : base ≤ gx) (hm : n ≤ maxLen) :
    Kd.R (Kd.int .i64) 3 w base (fun _ => True) (.slice (some ⟨gx, 0, none⟩) n n) xs := by
  have h := H.lx
  subst h
  refine ⟨fun _ _ => trivial, xs.map (Value.int .i64), ⟨by show _ = xs.length * 1; simp, .inr ⟨gx, xs.length, (xs.map (Value.int .i64)).toArray, rfl, hb, H.x, Nat.le_refl _, hm, by show _ = xs.length * 1; simp, by show List.take (xs.length * 1) _ = _; exact List.take_of_length_le (by simp)⟩⟩, by show _ = xs.length * 1; simp, fun j p hp => ?_⟩
  obtain ⟨hj, rfl⟩ := List.getElem?_eq_some_iff.1 hp
  show List.take 1 (List.drop (j * 1) (xs.map (Value.int .i64))) = [.int .i64 xs[j]]
  rw [Nat.mul_one, List.drop_eq_getElem_cons (by simpa using hj)]
  simp
theorem lbts_Outputs.then_goto {l : Nat} {K : Act → World → Prop} {Q : Exit → Act → World → Prop} {a : Act} {w : World} : Exit.then K Q (.goto l) a w = Q (.goto l) a w := rfl
/-! The pure function, over what a member's own base, its later and a number's time are. -/
section
variable (ow : S108 → Int × Bool) (la : S108 → Int → Int) (cl : Int → Int)
def lbts_Outputs.x0 (m : S108) : Int := if m.f0 then la m (ow m).1 else 1125899906842624
def lbts_Outputs.h0 (m : S108) : Bool := if m.f0 then (ow m).2 else false
def lbts_Outputs.relax (l : List S108) (os hs : List Bool) (i : Nat) (xs : List Int) : Nat → List Int
  | 0 => xs
  | j + 1 =>
    let ys := lbts_Outputs.relax l os hs i xs j
    if os.getD j false && hs.getD j false then ys.set j (mn (ys.getD j 0) (la (l.getD j z108) (mx (cl (l.getD j z108).f2) (ys.getD i 0)))) else ys
def lbts_Outputs.run (l : List S108) (hs : List Bool) : Nat → List Bool → List Int → Option (List Int)
  | 0, _, _ => none
  | k + 1, os, xs =>
    if lbts_Outputs.best os xs l.length < 0 then some xs
    else lbts_Outputs.run l hs k (os.set (lbts_Outputs.best os xs l.length).toNat false) (lbts_Outputs.relax la cl l (os.set (lbts_Outputs.best os xs l.length).toNat false) hs (lbts_Outputs.best os xs l.length).toNat xs l.length)
end
section
variable {ow : S108 → Int × Bool} {la : S108 → Int → Int} {cl : Int → Int}
abbrev lbts_Outputs.mv (m : S108) : Value := .agg #[.bool m.f0, .bool m.f1, .int .i64 m.f2, .int .i64 m.f3, .int .i64 m.f4, .int .i64 m.f5, .int .i64 m.f6]
theorem lbts_Outputs.madeI (n : Nat) : madeCells #[Value.int .i64 0] n = ((List.replicate n (0 : Int)).map (Value.int .i64)).toArray := by
  apply Array.ext
  · simp [madeCells]
  · intro i h1 h2
    simp [madeCells, Nat.mod_one]
theorem lbts_Outputs.madeB (n : Nat) : madeCells #[Value.bool false] n = ((List.replicate n false).map Value.bool).toArray := by
  apply Array.ext
  · simp [madeCells]
  · intro i h1 h2
    simp [madeCells, Nat.mod_one]
theorem lbts_Outputs.St_made (w : World) (A0 : Option Addr) (n c0 : Nat) :
    lbts_Outputs.St ((((((w.alloc (.cells #[.slice A0 n c0] 73)).alloc (.cells ((List.replicate n (0 : Int)).map (Value.int .i64)).toArray 3)).alloc (.cells #[.slice (some ⟨w.heap.size + 1, 0, none⟩) n n] 35)).alloc (.cells ((List.replicate n false).map Value.bool).toArray 4)).alloc (.cells #[.slice (some ⟨w.heap.size + 1 + 1 + 1, 0, none⟩) n n] 106)).alloc (.cells ((List.replicate n false).map Value.bool).toArray 4))
      w.heap.size (w.heap.size + 1 + 1) (w.heap.size + 1 + 1 + 1 + 1) (w.heap.size + 1) (w.heap.size + 1 + 1 + 1) (w.heap.size + 1 + 1 + 1 + 1 + 1) A0 n c0 (List.replicate n 0) (List.replicate n false) (List.replicate n false) where
  bl := blk_alloc (blk_alloc (blk_alloc (blk_alloc (blk_alloc (blk_new w _) _) _) _) _) _
  x := blk_alloc (blk_alloc (blk_alloc (blk_alloc (by simpa using blk_new (w.alloc (.cells #[.slice A0 n c0] 73)) (.cells ((List.replicate n (0 : Int)).map (Value.int .i64)).toArray 3)) _) _) _) _
  bx := blk_alloc (blk_alloc (blk_alloc (by simpa using blk_new ((w.alloc (.cells #[.slice A0 n c0] 73)).alloc (.cells ((List.replicate n (0 : Int)).map (Value.int .i64)).toArray 3)) (.cells #[.slice (some ⟨w.heap.size + 1, 0, none⟩) n n] 35)) _) _) _
  o := blk_alloc (blk_alloc (by simpa using blk_new (((w.alloc (.cells #[.slice A0 n c0] 73)).alloc (.cells ((List.replicate n (0 : Int)).map (Value.int .i64)).toArray 3)).alloc (.cells #[.slice (some ⟨w.heap.size + 1, 0, none⟩) n n] 35)) (.cells ((List.replicate n false).map Value.bool).toArray 4)) _) _
  bo := blk_alloc (by simpa using blk_new ((((w.alloc (.cells #[.slice A0 n c0] 73)).alloc (.cells ((List.replicate n (0 : Int)).map (Value.int .i64)).toArray 3)).alloc (.cells #[.slice (some ⟨w.heap.size + 1, 0, none⟩) n n] 35)).alloc (.cells ((List.replicate n false).map Value.bool).toArray 4)) (.cells #[.slice (some ⟨w.heap.size + 1 + 1 + 1, 0, none⟩) n n] 106)) _
  h := by simpa using blk_new (((((w.alloc (.cells #[.slice A0 n c0] 73)).alloc (.cells ((List.replicate n (0 : Int)).map (Value.int .i64)).toArray 3)).alloc (.cells #[.slice (some ⟨w.heap.size + 1, 0, none⟩) n n] 35)).alloc (.cells ((List.replicate n false).map Value.bool).toArray 4)).alloc (.cells #[.slice (some ⟨w.heap.size + 1 + 1 + 1, 0, none⟩) n n] 106)) (.cells ((List.replicate n false).map Value.bool).toArray 4)
  ne := by omega
  lx := by simp
  lo := by simp
  lh := by simp
theorem lbts_Outputs.made_below (w : World) (A0 : Option Addr) (n c0 : Nat) :
    Below w.heap.size w ((((((w.alloc (.cells #[.slice A0 n c0] 73)).alloc (.cells ((List.replicate n (0 : Int)).map (Value.int .i64)).toArray 3)).alloc (.cells #[.slice (some ⟨w.heap.size + 1, 0, none⟩) n n] 35)).alloc (.cells ((List.replicate n false).map Value.bool).toArray 4)).alloc (.cells #[.slice (some ⟨w.heap.size + 1 + 1 + 1, 0, none⟩) n n] 106)).alloc (.cells ((List.replicate n false).map Value.bool).toArray 4)) := by
  repeat (first | exact Below.refl _ w | apply below_alloc)
theorem lbts_Outputs.cells_at {α : Type} {d : Kd α} {w : World} {A : Option Addr} {l : List α} (h : d.C w A l.length l) {k : Nat} {x : α} (hx : l[k]? = some x) :
    ∃ ad c, A = some ad ∧ c.length = d.sz ∧ d.K w x c ∧ ∀ i u, c[i]? = some u → w.cell? (ad.add (k * d.sz + i)) = some u := by
  obtain ⟨hk, _⟩ := List.getElem?_eq_some_iff.1 hx
  obtain ⟨ad, rfl, hc⟩ := h.2.2 (by omega)
  obtain ⟨c, h1, h2, h3⟩ := hc k x hx
  exact ⟨ad, c, rfl, h1, h2, h3⟩
/-- What a slice holds after k rounds. -/
def lbts_Outputs.pre {α β : Type} (f : α → β) (z : β) (l : List α) (k : Nat) : List β := (l.take k).map f ++ List.replicate (l.length - k) z
theorem lbts_Outputs.pre_zero {α β : Type} (f : α → β) (z : β) (l : List α) : lbts_Outputs.pre f z l 0 = List.replicate l.length z := by simp [lbts_Outputs.pre]
theorem lbts_Outputs.pre_full {α β : Type} (f : α → β) (z : β) (l : List α) : lbts_Outputs.pre f z l l.length = l.map f := by simp [lbts_Outputs.pre]
theorem lbts_Outputs.pre_set {α β : Type} {f : α → β} {z : β} {l : List α} {k : Nat} {x : α} (hx : l[k]? = some x) : (lbts_Outputs.pre f z l k).set k (f x) = lbts_Outputs.pre f z l (k + 1) := by
  obtain ⟨hk, rfl⟩ := List.getElem?_eq_some_iff.1 hx
  unfold lbts_Outputs.pre
  have e : l.length - k = (l.length - (k + 1)) + 1 := by omega
  rw [List.take_succ_eq_append_getElem hk, List.set_append_right _ _ (by rw [List.length_map, List.length_take]; omega), e, List.replicate_succ]
  have : k - (List.map f (List.take k l)).length = 0 := by rw [List.length_map, List.length_take]; omega
  rw [this, List.set_cons_zero, List.map_append, List.append_assoc]
  rfl
theorem lbts_Outputs.pre_same {α β : Type} {f : α → β} {z : β} {l : List α} {k : Nat} {x : α} (hx : l[k]? = some x) (h : f x = z) : lbts_Outputs.pre f z l (k + 1) = lbts_Outputs.pre f z l k := by
  obtain ⟨hk, rfl⟩ := List.getElem?_eq_some_iff.1 hx
  unfold lbts_Outputs.pre
  have e : l.length - k = (l.length - (k + 1)) + 1 := by omega
  rw [List.take_succ_eq_append_getElem hk, e, List.replicate_succ, List.map_append, List.append_assoc, ← h]
  rfl
set_option maxRecDepth 100000 in
theorem lbts_Outputs.frame88 (T : List Value) (h : T.length = 88) : ∃ u : Nat → Value, T = [u 0, u 1, u 2, u 3, u 4, u 5, u 6, u 7, u 8, u 9, u 10, u 11, u 12, u 13, u 14, u 15, u 16, u 17, u 18, u 19, u 20, u 21, u 22, u 23, u 24, u 25, u 26, u 27, u 28, u 29, u 30, u 31, u 32, u 33, u 34, u 35, u 36, u 37, u 38, u 39, u 40, u 41, u 42, u 43, u 44, u 45, u 46, u 47, u 48, u 49, u 50, u 51, u 52, u 53, u 54, u 55, u 56, u 57, u 58, u 59, u 60, u 61, u 62, u 63, u 64, u 65, u 66, u 67, u 68, u 69, u 70, u 71, u 72, u 73, u 74, u 75, u 76, u 77, u 78, u 79, u 80, u 81, u 82, u 83, u 84, u 85, u 86, u 87] := by
  refine ⟨fun i => T.getD i undef, ?_⟩
  have e : T = (List.range 88).map (fun i => T.getD i undef) := by
    apply List.ext_getElem
    · simp [h]
    · intro i h1 h2
      simp [List.getElem?_eq_getElem h1]
  exact e
set_option maxRecDepth 100000 in
set_option maxHeartbeats 8000000 in
theorem lbts_Outputs.walk
    (Hown : ∀ (m : S108) (W : World), Calls Tryz.prog 48 #[lbts_Outputs.mv m] W fun e w' => e = .returned (.tuple #[.int .i64 (ow m).1, .bool (ow m).2]) ∧ Below W.heap.size W w')
    (Hla : ∀ (m : S108) (t : Int) (W : World), Calls Tryz.prog 49 #[lbts_Outputs.mv m, .int .i64 t] W fun e w' => e = .returned (.int .i64 (la m t)) ∧ Below W.heap.size W w')
    (Hcl : ∀ (t : Int) (W : World), Calls Tryz.prog 51 #[.int .i64 t] W fun e w' => e = .returned (.int .i64 (cl t)) ∧ Below W.heap.size W w')
    (A0 : Option Addr) (c0 : Nat) (l0 : List S108) (K : Nat) (r : List Int) (w : World) (hr0 : Kd.C k108 w A0 l0.length l0) (hc0 : l0.length ≤ c0) (hn : l0.length ≤ 1000000)
    (hrun : lbts_Outputs.run la cl l0 (l0.map (lbts_Outputs.h0 ow)) K (l0.map (·.f0)) (l0.map (lbts_Outputs.x0 ow la)) = some r) :
    Calls Tryz.prog 27 #[.slice A0 l0.length c0] w fun e w' => ∃ v0_ : Value, e = .returned (v0_) ∧ Kd.R (Kd.int .i64) 3 w' w.heap.size (fun _ => True) v0_ r ∧ Below w.heap.size w w' := by
  have HR := Aside0.mk hr0
  have HRUN := Aside0.mk hrun
  have HC0 := Aside0.mk hc0
  have OWN := Aside0.mk Hown
  have LA := Aside0.mk Hla
  have CL := Aside0.mk Hcl
  clear hr0 hrun hc0 Hown Hla Hcl
  have hmkI := print_make_of (P := Tryz.prog) 35 3 (.int .i64 0) 8 Tryz.underlying35 info3 rfl (by omega) l0.length (by omega)
  have hmkB := print_make_of (P := Tryz.prog) 106 4 (.bool false) 1 Tryz.underlying106 (by kernel_rfl) rfl (by omega) l0.length (by omega)
  have hmf : ∀ (fn : Fn) (first cap : Array Value) (w : World), (Instr.makeFunc fn first cap).run Tryz.prog w = .ok (.func fn first cap) w := fun _ _ _ _ => rfl
  go_enter Tryz.func27, Tryz.ntmps27
  go_wp2
  refine lbts_Outputs.scope (rest := ?rest) 0 (fun k a' w' => ∃ (Bl Bx Bo gx go gh : Nat) (xs : List Int) (os : List Bool) (u0 u2 u6 u7 u8 u9 : Value) (T : List Value), T.length = 88 ∧ a' = { tmps := ([u0, .pointer (some ⟨Bl, 0, none⟩), u2, .pointer (some ⟨Bx, 0, none⟩), .pointer (some ⟨Bo, 0, none⟩), .slice (some ⟨gh, 0, none⟩) l0.length l0.length, u6, u7, u8, u9, .func (.func 50) #[] #[.pointer (some ⟨Bl, 0, none⟩), .pointer (some ⟨Bo, 0, none⟩), .pointer (some ⟨Bx, 0, none⟩)]] ++ T).toArray, defers := [] } ∧
      Aside0 (lbts_Outputs.St w' Bl Bx Bo gx go gh A0 l0.length c0 xs os (l0.map (lbts_Outputs.h0 ow))) ∧ Aside0 (Below w.heap.size w w') ∧ Aside0 (w.heap.size ≤ gx ∧ w.heap.size ≤ go ∧ w.heap.size ≤ gh) ∧ Aside0 (lbts_Outputs.run la cl l0 (l0.map (lbts_Outputs.h0 ow)) k os xs = some r)) ?hf ?pass ?first
  case hf => rfl
  case first =>
    intro hpass
    have HP := Aside0.mk hpass
    clear hpass
    go_wp2
    have hmI := lbts_Outputs.madeI l0.length
    have hmB := lbts_Outputs.madeB l0.length
    rw [hmI, hmB]
    clear hmI hmB
    have ST := lbts_Outputs.St_made w A0 l0.length c0
    have BW := lbts_Outputs.made_below w A0 l0.length c0
    generalize hw1 : ((((((w.alloc (.cells #[.slice A0 l0.length c0] 73)).alloc (.cells ((List.replicate l0.length (0 : Int)).map (Value.int .i64)).toArray 3)).alloc (.cells #[.slice (some ⟨w.heap.size + 1, 0, none⟩) l0.length l0.length] 35)).alloc (.cells ((List.replicate l0.length false).map Value.bool).toArray 4)).alloc (.cells #[.slice (some ⟨w.heap.size + 1 + 1 + 1, 0, none⟩) l0.length l0.length] 106)).alloc (.cells ((List.replicate l0.length false).map Value.bool).toArray 4)) = w1 at *
    clear hw1
    obtain ⟨gh, hgh⟩ : ∃ g, g = w.heap.size + 1 + 1 + 1 + 1 + 1 := ⟨_, rfl⟩
    obtain ⟨Bo, hBo⟩ : ∃ g, g = w.heap.size + 1 + 1 + 1 + 1 := ⟨_, rfl⟩
    obtain ⟨go, hgo⟩ : ∃ g, g = w.heap.size + 1 + 1 + 1 := ⟨_, rfl⟩
    obtain ⟨Bx, hBx⟩ : ∃ g, g = w.heap.size + 1 + 1 := ⟨_, rfl⟩
    obtain ⟨gx, hgx⟩ : ∃ g, g = w.heap.size + 1 := ⟨_, rfl⟩
    obtain ⟨Bl, hBl⟩ : ∃ g, g = w.heap.size := ⟨_, rfl⟩
    rw [← hgh, ← hBo, ← hgo, ← hBx, ← hgx] at ST
    rw [← hgh, ← hBo, ← hgo, ← hBx, ← hgx]
    have LE := Aside0.mk (show w.heap.size ≤ gx ∧ w.heap.size ≤ go ∧ w.heap.size ≤ gh by omega)
    have LZ := Aside0.mk (show w.heap.size < w1.heap.size by exact blk_lt ST.bl)
    have HST := Aside0.mk ST
    have HBW := Aside0.mk BW
    clear ST BW hgh hBo hgo hBx hgx
    go_loopg [25] l0.length (fun gg s25 wr => ∃ kk : Nat, kk ≤ l0.length ∧ l0.length - kk ≤ gg ∧ s25 = .int .i64 kk ∧ Aside0 (lbts_Outputs.St wr w.heap.size Bx Bo gx go gh A0 l0.length c0 (lbts_Outputs.pre (lbts_Outputs.x0 ow la) 0 l0 kk) (lbts_Outputs.pre (·.f0) false l0 kk) (lbts_Outputs.pre (lbts_Outputs.h0 ow) false l0 kk)) ∧ Aside0 (Below w.heap.size w wr))
    case atStart =>
      refine ⟨0, Nat.zero_le _, by omega, rfl, ⟨?_⟩, HBW⟩
      rw [lbts_Outputs.pre_zero, lbts_Outputs.pre_zero, lbts_Outputs.pre_zero]
      exact HST.out
    case round =>
      obtain ⟨kk, hkk, hg, rfl, ST, BW⟩ := hrel
      clear HST HBW
      by_cases hlt : kk < l0.length
      · have hltz : (kk : Int) < (l0.length : Int) := by omega
        have hk0 : (0 : Int) ≤ (kk : Int) := Int.natCast_nonneg kk
        obtain ⟨x, hx⟩ : ∃ x, l0[kk]? = some x := ⟨_, List.getElem?_eq_getElem hlt⟩
        obtain ⟨ad, cs, rfl, hcl, hK, hcell⟩ := lbts_Outputs.cells_at (Kd.C_below HR.out BW.out) hx
        obtain rfl := k108_open hK
        have q0 : wr.cell? (ad.add (kk * 7)) = some (.bool x.f0) := by exact hcell 0 _ rfl
        have q1 : wr.cell? ⟨(ad.add (kk * 7)).block, (ad.add (kk * 7)).off + 1, none⟩ = some (.bool x.f1) := by have := hcell 1 _ rfl; rwa [add_field _ _ 1 (by omega)] at this
        have q2 : wr.cell? ⟨(ad.add (kk * 7)).block, (ad.add (kk * 7)).off + 2, none⟩ = some (.int .i64 x.f2) := by have := hcell 2 _ rfl; rwa [add_field _ _ 2 (by omega)] at this
        have q3 : wr.cell? ⟨(ad.add (kk * 7)).block, (ad.add (kk * 7)).off + 3, none⟩ = some (.int .i64 x.f3) := by have := hcell 3 _ rfl; rwa [add_field _ _ 3 (by omega)] at this
        have q4 : wr.cell? ⟨(ad.add (kk * 7)).block, (ad.add (kk * 7)).off + 4, none⟩ = some (.int .i64 x.f4) := by have := hcell 4 _ rfl; rwa [add_field _ _ 4 (by omega)] at this
        have q5 : wr.cell? ⟨(ad.add (kk * 7)).block, (ad.add (kk * 7)).off + 5, none⟩ = some (.int .i64 x.f5) := by have := hcell 5 _ rfl; rwa [add_field _ _ 5 (by omega)] at this
        have q6 : wr.cell? ⟨(ad.add (kk * 7)).block, (ad.add (kk * 7)).off + 6, none⟩ = some (.int .i64 x.f6) := by have := hcell 6 _ rfl; rwa [add_field _ _ 6 (by omega)] at this
        have HX := Aside0.mk hx
        have HG := Aside0.mk hg
        clear hcell hK hcl hx hg
        cases hb : x.f0 with
        | true =>
          rw [hb] at q0
          have HF := Aside0.mk hb
          clear hb
          have ST0 := ST.out.below (below_alloc (Below.refl _ wr) (.cells #[.bool true, .bool x.f1, .int .i64 x.f2, .int .i64 x.f3, .int .i64 x.f4, .int .i64 x.f5, .int .i64 x.f6] 108 (0, 0)))
          have d1 := ST0.cbx
          have d2 := ST0.cbo
          have cx := ST0.cx hlt
          have fx := blk_frozen ST0.x kk
          have ST1 := Aside0.mk (ST0.setx kk 1125899906842624)
          have e1 : gx ≠ wr.heap.size := Nat.ne_of_lt (blk_lt ST.out.x)
          have e2 : wr.heap.size ≠ gx := Ne.symm e1
          have e3 : Bx ≠ gx := blk_ne ST.out.bx ST.out.x (by decide)
          have e4 : gx ≠ Bx := Ne.symm e3
          have e5 : Bo ≠ gx := blk_ne ST.out.bo ST.out.x (by decide)
          have e6 : gx ≠ Bo := Ne.symm e5
          clear ST0
          have C1 : Aside0 (∀ W : World, Calls Tryz.prog 48 #[.agg #[.bool true, .bool x.f1, .int .i64 x.f2, .int .i64 x.f3, .int .i64 x.f4, .int .i64 x.f5, .int .i64 x.f6]] W fun e w' => e = .returned (.tuple #[.int .i64 (ow x).1, .bool (ow x).2]) ∧ Below W.heap.size W w') := ⟨fun W => by
            have := OWN.out x W
            unfold lbts_Outputs.mv at this
            rw [HF.out] at this
            exact this⟩
          have C2 : Aside0 (∀ W : World, Calls Tryz.prog 49 #[.agg #[.bool true, .bool x.f1, .int .i64 x.f2, .int .i64 x.f3, .int .i64 x.f4, .int .i64 x.f5, .int .i64 x.f6], .int .i64 (ow x).1] W fun e w' => e = .returned (.int .i64 (la x (ow x).1)) ∧ Below W.heap.size W w') := ⟨fun W => by
            have := LA.out x (ow x).1 W
            unfold lbts_Outputs.mv at this
            rw [HF.out] at this
            exact this⟩
          have HE : Aside0 (lbts_Outputs.x0 ow la x = la x (ow x).1 ∧ lbts_Outputs.h0 ow x = (ow x).2) := ⟨by unfold lbts_Outputs.x0 lbts_Outputs.h0; rw [HF.out]; exact ⟨rfl, rfl⟩⟩
          have f1 : go ≠ gx := blk_ne ST.out.o ST.out.x (by decide)
          have f2 : gh ≠ gx := blk_ne ST.out.h ST.out.x (by decide)
          have f3 : go ≠ gh := ST.out.ne
          have f4 : gx ≠ go := Ne.symm f1
          have f5 : gx ≠ gh := Ne.symm f2
          have f6 : gh ≠ go := Ne.symm f3
          have m1 : Bx ≠ go := blk_ne ST.out.bx ST.out.o (by decide)
          have m2 : Bx ≠ gh := blk_ne ST.out.bx ST.out.h (by decide)
          have m3 : Bo ≠ go := blk_ne ST.out.bo ST.out.o (by decide)
          have m4 : Bo ≠ gh := blk_ne ST.out.bo ST.out.h (by decide)
          have m5 : wr.heap.size ≠ go := Ne.symm (Nat.ne_of_lt (blk_lt ST.out.o))
          have m6 : wr.heap.size ≠ gh := Ne.symm (Nat.ne_of_lt (blk_lt ST.out.h))
          have n1 := Ne.symm m1
          have n2 := Ne.symm m2
          have n3 := Ne.symm m3
          have n4 := Ne.symm m4
          have n5 := Ne.symm m5
          have n6 := Ne.symm m6
          have BK := Aside0.mk (blk_far (blk_new wr (.cells #[.bool true, .bool x.f1, .int .i64 x.f2, .int .i64 x.f3, .int .i64 x.f4, .int .i64 x.f5, .int .i64 x.f6] 108 (0, 0))) (p := ⟨gx, kk, none⟩) e2 (.int .i64 1125899906842624))
          go_upto_region 10 with (first
            | (go_at_call 48; refine (C1.out _).mono ?_; rintro e w2 ⟨rfl, hb2⟩; have ST2 := Aside0.mk (ST1.out.below hb2); have g1 := ST2.out.cbx; have g2 := ST2.out.cbo; have BK2 := Aside0.mk (blk_below BK.out hb2); have b0 : w2.cell? ⟨wr.heap.size, 0, none⟩ = some (.bool true) := (blk_cell BK2.out 0).trans rfl; have b1 : w2.cell? ⟨wr.heap.size, 1, none⟩ = some (.bool x.f1) := (blk_cell BK2.out 1).trans rfl; have b2 : w2.cell? ⟨wr.heap.size, 2, none⟩ = some (.int .i64 x.f2) := (blk_cell BK2.out 2).trans rfl; have b3 : w2.cell? ⟨wr.heap.size, 3, none⟩ = some (.int .i64 x.f3) := (blk_cell BK2.out 3).trans rfl; have b4 : w2.cell? ⟨wr.heap.size, 4, none⟩ = some (.int .i64 x.f4) := (blk_cell BK2.out 4).trans rfl; have b5 : w2.cell? ⟨wr.heap.size, 5, none⟩ = some (.int .i64 x.f5) := (blk_cell BK2.out 5).trans rfl; have b6 : w2.cell? ⟨wr.heap.size, 6, none⟩ = some (.int .i64 x.f6) := (blk_cell BK2.out 6).trans rfl; have BW2 := Aside0.mk (below_step (below_set (below_alloc BW.out _) LE.out.1) hb2); clear hb2))
          go_region_held3 (fun w' => w'.cell? ⟨Bx, 0, none⟩ = some (.slice (some ⟨gx, 0, none⟩) l0.length l0.length) ∧ w'.cell? ⟨Bo, 0, none⟩ = some (.slice (some ⟨go, 0, none⟩) l0.length l0.length) ∧ w'.cell? ⟨wr.heap.size, 0, none⟩ = some (.bool true) ∧ w'.cell? ⟨wr.heap.size, 1, none⟩ = some (.bool x.f1) ∧ w'.cell? ⟨wr.heap.size, 2, none⟩ = some (.int .i64 x.f2) ∧ w'.cell? ⟨wr.heap.size, 3, none⟩ = some (.int .i64 x.f3) ∧ w'.cell? ⟨wr.heap.size, 4, none⟩ = some (.int .i64 x.f4) ∧ w'.cell? ⟨wr.heap.size, 5, none⟩ = some (.int .i64 x.f5) ∧ w'.cell? ⟨wr.heap.size, 6, none⟩ = some (.int .i64 x.f6)) (go_keep)
            (first | (go_at_call 49; refine (C2.out _).mono ?_; rintro e w3 ⟨rfl, hb3⟩; have hb3' : Below w2.heap.size w2 w3 := below_step (by repeat (first | exact Below.refl _ _ | apply pw_below_drewN | apply below_drew1)) hb3; have ST3 := Aside0.mk (ST2.out.below hb3'); have BK3 := Aside0.mk (blk_below BK2.out hb3'); have BW3 := Aside0.mk (below_step BW2.out hb3'); have g1' := ST3.out.cbx; have g2' := ST3.out.cbo; have b0' : w3.cell? ⟨wr.heap.size, 0, none⟩ = some (.bool true) := (blk_cell BK3.out 0).trans rfl; have b1' : w3.cell? ⟨wr.heap.size, 1, none⟩ = some (.bool x.f1) := (blk_cell BK3.out 1).trans rfl; have b2' : w3.cell? ⟨wr.heap.size, 2, none⟩ = some (.int .i64 x.f2) := (blk_cell BK3.out 2).trans rfl; have b3' : w3.cell? ⟨wr.heap.size, 3, none⟩ = some (.int .i64 x.f3) := (blk_cell BK3.out 3).trans rfl; have b4' : w3.cell? ⟨wr.heap.size, 4, none⟩ = some (.int .i64 x.f4) := (blk_cell BK3.out 4).trans rfl; have b5' : w3.cell? ⟨wr.heap.size, 5, none⟩ = some (.int .i64 x.f5) := (blk_cell BK3.out 5).trans rfl; have b6' : w3.cell? ⟨wr.heap.size, 6, none⟩ = some (.int .i64 x.f6) := (blk_cell BK3.out 6).trans rfl; have s1 := ST3.out.cx hlt; have s2 := ST3.out.co hlt; have s3 := ST3.out.ch hlt; have t1 := blk_frozen ST3.out.x kk; have t2 := blk_frozen ST3.out.o kk; have t3 := blk_frozen ST3.out.h kk; clear hb3 hb3'))
          all_goals go_wp2
          go_roundg (l0.length - (kk + 1))
          case measure => have := HG.out; omega
          case rel =>
            refine ⟨kk + 1, by omega, by omega, by go_num, ⟨?_⟩, ⟨below_set (below_set (below_set BW3.out LE.out.1) LE.out.2.1) LE.out.2.2⟩⟩
            have h := ((ST3.out.setx kk (la x (ow x).1)).seto kk true).seth kk (ow x).2
            rw [List.set_set, ← HE.out.1, ← HE.out.2, ← HF.out, lbts_Outputs.pre_set (f := lbts_Outputs.x0 ow la) HX.out, lbts_Outputs.pre_set (f := lbts_Outputs.h0 ow) HX.out, lbts_Outputs.pre_set (f := fun m : S108 => m.f0) HX.out] at h
            rw [HE.out.1, HE.out.2, HF.out] at h
            exact h
        | false =>
          rw [hb] at q0
          have HF := Aside0.mk hb
          clear hb
          have ST0 := ST.out.below (below_alloc (Below.refl _ wr) (.cells #[.bool false, .bool x.f1, .int .i64 x.f2, .int .i64 x.f3, .int .i64 x.f4, .int .i64 x.f5, .int .i64 x.f6] 108 (0, 0)))
          have d1 := ST0.cbx
          have d2 := ST0.cbo
          have cx := ST0.cx hlt
          have fx := blk_frozen ST0.x kk
          have ST1 := Aside0.mk (ST0.setx kk 1125899906842624)
          have e1 : gx ≠ wr.heap.size := Nat.ne_of_lt (blk_lt ST.out.x)
          have e2 : wr.heap.size ≠ gx := Ne.symm e1
          have e3 : Bx ≠ gx := blk_ne ST.out.bx ST.out.x (by decide)
          have e4 : gx ≠ Bx := Ne.symm e3
          have e5 : Bo ≠ gx := blk_ne ST.out.bo ST.out.x (by decide)
          have e6 : gx ≠ Bo := Ne.symm e5
          clear ST0
          have HE : Aside0 (lbts_Outputs.x0 ow la x = 1125899906842624 ∧ lbts_Outputs.h0 ow x = false) := ⟨by unfold lbts_Outputs.x0 lbts_Outputs.h0; rw [HF.out]; exact ⟨rfl, rfl⟩⟩
          go_wp2
          go_roundg (l0.length - (kk + 1))
          case measure => have := HG.out; omega
          case rel =>
            refine ⟨kk + 1, by omega, by omega, by go_num, ⟨?_⟩, ⟨below_set (below_alloc BW.out _) LE.out.1⟩⟩
            rw [← lbts_Outputs.pre_set HX.out, HE.out.1, lbts_Outputs.pre_same HX.out HF.out, lbts_Outputs.pre_same HX.out HE.out.2]
            exact ST1.out
      · have hltz : ¬ (kk : Int) < (l0.length : Int) := by omega
        obtain rfl : kk = l0.length := by omega
        have STE := Aside0.mk (show lbts_Outputs.St wr w.heap.size Bx Bo gx go gh A0 l0.length c0 (l0.map (lbts_Outputs.x0 ow la)) (l0.map (·.f0)) (l0.map (lbts_Outputs.h0 ow)) by
          have h := ST.out
          rw [lbts_Outputs.pre_full, lbts_Outputs.pre_full, lbts_Outputs.pre_full] at h
          exact h)
        clear ST
        go_wp2
        go_step3
        refine (‹∀ (a : Act) (w : World), Code.wp _ _ _ a w → _› _ _ ?_)
        refine HP.out K _ _ ⟨w.heap.size, Bx, Bo, gx, go, gh, l0.map (lbts_Outputs.x0 ow la), l0.map (·.f0), _, _, _, _, _, _, _, ?_, rfl, STE, BW, LE, HRUN⟩
        rfl
  case pass =>
    rintro k _ w2 ⟨Bl, Bx, Bo, gx, go, gh, xs, os, u0, u2, u6, u7, u8, u9, T, hT, rfl, ST, BW, LE, RUN⟩
    obtain ⟨u, rfl⟩ := lbts_Outputs.frame88 T hT
    clear hT
    simp only [List.cons_append, List.nil_append]
    cases k with
    | zero =>
      have h : (none : Option (List Int)) = some r := RUN.out
      cases h
    | succ k =>
      have hrun := RUN.out
      clear RUN HRUN
      rw [lbts_Outputs.run] at hrun
      have hbr := lbts_Outputs.best_range os xs l0.length
      have LST := Aside0.mk (lbts_Outputs.least os xs l0.length hn Bl Bo Bx A0 (some ⟨go, 0, none⟩) (some ⟨gx, 0, none⟩) c0 l0.length l0.length w2 ST.out.cbl ST.out.cbo ST.out.cbx (ST.out.Co (by omega)) (ST.out.Cx (by omega)))
      have eg : ∀ (args : Array Value) (w : World), (callFunc 50 args).run Tryz.prog w = .ok (.enter 50 args) w := enters_of Tryz.func50 (by kernel_rfl) rfl
      by_cases hneg : lbts_Outputs.best os xs l0.length < 0
      · rw [if_pos hneg] at hrun
        obtain rfl := Option.some.inj hrun
        clear hrun
        have d1 := ST.out.cbx
        have hge : ¬ (0 : Int) ≤ lbts_Outputs.best os xs l0.length := by omega
        generalize lbts_Outputs.best os xs l0.length = b at *
        go_wp2_with (go_at_fn 50; refine LST.out.mono ?_; rintro e w' ⟨rfl, ⟨nd, rfl⟩⟩)
        go_wp2
        first | rw [lbts_Outputs.jump_normal] | rw [lbts_Outputs.jump_ret]
        go_wp2
        go_ret
        exact ⟨_, rfl, (ST.out.below (pw_below_drewN (Below.refl _ _) _)).R LE.out.1 (by unfold maxLen; omega), pw_below_drewN BW.out _⟩
      · rw [if_neg hneg] at hrun
        obtain ⟨i, hi⟩ : ∃ i : Nat, lbts_Outputs.best os xs l0.length = (i : Int) := ⟨(lbts_Outputs.best os xs l0.length).toNat, by omega⟩
        rw [hi] at hrun LST hbr
        rw [Int.toNat_natCast] at hrun
        have RUN := Aside0.mk hrun
        have hin : i < l0.length := by omega
        have hi0 : (0 : Int) ≤ (i : Int) := Int.natCast_nonneg i
        have hil : (i : Int) < (l0.length : Int) := by omega
        clear hrun hi hneg hbr
        have d2 := ST.out.cbo
        have c1 := ST.out.co hin
        have fz := blk_frozen ST.out.o i
        go_wp2_with (go_at_fn 50; refine LST.out.mono ?_; rintro e w' ⟨rfl, ⟨nd, rfl⟩⟩; have ST1 := Aside0.mk ((ST.out.below (pw_below_drewN (Below.refl _ _) nd)).seto i false); have d3 := ST1.out.cbl; have BW1 := Aside0.mk (below_set (j := i) (v := .bool false) (pw_below_drewN BW.out nd) LE.out.2.1))
        clear d2 c1 fz
        go_loopg [64] l0.length (fun gg s64 wr => ∃ j : Nat, j ≤ l0.length ∧ l0.length - j ≤ gg ∧ s64 = .int .i64 j ∧ Aside0 (lbts_Outputs.St wr Bl Bx Bo gx go gh A0 l0.length c0 (lbts_Outputs.relax la cl l0 (os.set i false) (l0.map (lbts_Outputs.h0 ow)) i xs j) (os.set i false) (l0.map (lbts_Outputs.h0 ow))) ∧ Aside0 (Below w.heap.size w wr))
        case atStart => exact ⟨0, Nat.zero_le _, by omega, rfl, ST1, BW1⟩
        case round =>
          obtain ⟨j, hj, hg, rfl, SJ, BJ⟩ := hrel
          clear ST1 BW1
          by_cases hlt : j < l0.length
          · have hltz : (j : Int) < (l0.length : Int) := by omega
            have hj0 : (0 : Int) ≤ (j : Int) := Int.natCast_nonneg j
            obtain ⟨x, hx⟩ : ∃ x, l0[j]? = some x := ⟨_, List.getElem?_eq_getElem hlt⟩
            obtain ⟨ad, cs, rfl, hcl, hK, hcell⟩ := lbts_Outputs.cells_at (Kd.C_below HR.out BJ.out) hx
            obtain rfl := k108_open hK
            have q0 : wr.cell? (ad.add (j * 7)) = some (.bool x.f0) := by exact hcell 0 _ rfl
            have q1 : wr.cell? ⟨(ad.add (j * 7)).block, (ad.add (j * 7)).off + 1, none⟩ = some (.bool x.f1) := by have := hcell 1 _ rfl; rwa [add_field _ _ 1 (by omega)] at this
            have q2 : wr.cell? ⟨(ad.add (j * 7)).block, (ad.add (j * 7)).off + 2, none⟩ = some (.int .i64 x.f2) := by have := hcell 2 _ rfl; rwa [add_field _ _ 2 (by omega)] at this
            have q3 : wr.cell? ⟨(ad.add (j * 7)).block, (ad.add (j * 7)).off + 3, none⟩ = some (.int .i64 x.f3) := by have := hcell 3 _ rfl; rwa [add_field _ _ 3 (by omega)] at this
            have q4 : wr.cell? ⟨(ad.add (j * 7)).block, (ad.add (j * 7)).off + 4, none⟩ = some (.int .i64 x.f4) := by have := hcell 4 _ rfl; rwa [add_field _ _ 4 (by omega)] at this
            have q5 : wr.cell? ⟨(ad.add (j * 7)).block, (ad.add (j * 7)).off + 5, none⟩ = some (.int .i64 x.f5) := by have := hcell 5 _ rfl; rwa [add_field _ _ 5 (by omega)] at this
            have q6 : wr.cell? ⟨(ad.add (j * 7)).block, (ad.add (j * 7)).off + 6, none⟩ = some (.int .i64 x.f6) := by have := hcell 6 _ rfl; rwa [add_field _ _ 6 (by omega)] at this
            have hxd : l0.getD j z108 = x := by rw [List.getD_eq_getElem?_getD, hx]; rfl
            have hst : lbts_Outputs.relax la cl l0 (os.set i false) (l0.map (lbts_Outputs.h0 ow)) i xs (j + 1) = (if (os.set i false).getD j false && (l0.map (lbts_Outputs.h0 ow)).getD j false then (lbts_Outputs.relax la cl l0 (os.set i false) (l0.map (lbts_Outputs.h0 ow)) i xs j).set j (mn ((lbts_Outputs.relax la cl l0 (os.set i false) (l0.map (lbts_Outputs.h0 ow)) i xs j).getD j 0) (la (l0.getD j z108) (mx (cl (l0.getD j z108).f2) ((lbts_Outputs.relax la cl l0 (os.set i false) (l0.map (lbts_Outputs.h0 ow)) i xs j).getD i 0)))) else lbts_Outputs.relax la cl l0 (os.set i false) (l0.map (lbts_Outputs.h0 ow)) i xs j) := rfl
            rw [hxd] at hst
            have HG := Aside0.mk hg
            clear hcell hK hcl hx hxd hg
            have ST0 := Aside0.mk (SJ.out.below (below_alloc (Below.refl _ wr) (.cells #[.bool x.f0, .bool x.f1, .int .i64 x.f2, .int .i64 x.f3, .int .i64 x.f4, .int .i64 x.f5, .int .i64 x.f6] 108 (0, 0))))
            have d2 := ST0.out.cbo
            have co := ST0.out.co hlt
            have ch := ST0.out.ch hlt
            cases ho : (os.set i false).getD j false with
            | false =>
              rw [ho] at co hst
              have HST := Aside0.mk hst
              clear ho hst
              go_wp2
              go_roundg (l0.length - (j + 1))
              case measure => have := HG.out; omega
              case rel => exact ⟨j + 1, by omega, by omega, by go_num, ⟨by rw [HST.out]; exact ST0.out⟩, ⟨below_alloc BJ.out _⟩⟩
            | true =>
              rw [ho] at co hst
              clear ho
              cases hh : (l0.map (lbts_Outputs.h0 ow)).getD j false with
              | false =>
                rw [hh] at ch hst
                have HST := Aside0.mk hst
                clear hh hst
                go_wp2
                go_roundg (l0.length - (j + 1))
                case measure => have := HG.out; omega
                case rel => exact ⟨j + 1, by omega, by omega, by go_num, ⟨by rw [HST.out]; exact ST0.out⟩, ⟨below_alloc BJ.out _⟩⟩
              | true =>
                rw [hh] at ch hst
                clear hh
                have HST := Aside0.mk hst
                clear hst
                generalize hys : lbts_Outputs.relax la cl l0 (os.set i false) (l0.map (lbts_Outputs.h0 ow)) i xs j = ys at *
                generalize hp : ys.getD j 0 = p at *
                generalize hq : ys.getD i 0 = q at *
                have BK0 := Aside0.mk (blk_new wr (.cells #[.bool x.f0, .bool x.f1, .int .i64 x.f2, .int .i64 x.f3, .int .i64 x.f4, .int .i64 x.f5, .int .i64 x.f6] 108 (0, 0)))
                go_wp2
                generalize hW0 : wr.alloc (.cells #[.bool x.f0, .bool x.f1, .int .i64 x.f2, .int .i64 x.f3, .int .i64 x.f4, .int .i64 x.f5, .int .i64 x.f6] 108 (0, 0)) = W0 at *
                have BW0 : Aside0 (Below w.heap.size w W0) := ⟨by rw [← hW0]; exact below_alloc BJ.out _⟩
                clear hW0
                have m1 : Bx ≠ gx := blk_ne SJ.out.bx SJ.out.x (by decide)
                have m2 : wr.heap.size ≠ gx := Ne.symm (Nat.ne_of_lt (blk_lt SJ.out.x))
                have n1 := Ne.symm m1
                have n2 := Ne.symm m2
                have g10 := ST0.out.cbx
                have b00 : World.cell? W0 ⟨wr.heap.size, 0, none⟩ = some (.bool x.f0) := (blk_cell BK0.out 0).trans rfl
                have b10 : World.cell? W0 ⟨wr.heap.size, 1, none⟩ = some (.bool x.f1) := (blk_cell BK0.out 1).trans rfl
                have b20 : World.cell? W0 ⟨wr.heap.size, 2, none⟩ = some (.int .i64 x.f2) := (blk_cell BK0.out 2).trans rfl
                have b30 : World.cell? W0 ⟨wr.heap.size, 3, none⟩ = some (.int .i64 x.f3) := (blk_cell BK0.out 3).trans rfl
                have b40 : World.cell? W0 ⟨wr.heap.size, 4, none⟩ = some (.int .i64 x.f4) := (blk_cell BK0.out 4).trans rfl
                have b50 : World.cell? W0 ⟨wr.heap.size, 5, none⟩ = some (.int .i64 x.f5) := (blk_cell BK0.out 5).trans rfl
                have b60 : World.cell? W0 ⟨wr.heap.size, 6, none⟩ = some (.int .i64 x.f6) := (blk_cell BK0.out 6).trans rfl
                have xj0 := ST0.out.cx hlt
                have xi0 := ST0.out.cx hin
                have fj0 := blk_frozen ST0.out.x j
                rw [hp] at xj0
                rw [hq] at xi0
                have HP := Aside0.mk hp
                have HQ := Aside0.mk hq
                have HYS := Aside0.mk hys
                clear hp hq hys
                rcases Int.lt_or_le (cl x.f2) q with hm1 | hm1
                · rcases Int.lt_or_le (la x q) p with hm2 | hm2
                  · replace HST : Aside0 (lbts_Outputs.relax la cl l0 (os.set i false) (l0.map (lbts_Outputs.h0 ow)) i xs (j + 1) = ys.set j (la x q)) := ⟨by
                      rw [HST.out, show mx (cl x.f2) q = q from by unfold mx; omega]
                      rw [show mn p (la x q) = (la x q) from by unfold mn; omega]; exact if_pos rfl⟩
                    refine Till.begin 18 (fun w' => w'.cell? ⟨Bx, 0, none⟩ = some (.slice (some ⟨gx, 0, none⟩) l0.length l0.length) ∧ w'.cell? ⟨wr.heap.size, 0, none⟩ = some (.bool x.f0) ∧ w'.cell? ⟨wr.heap.size, 1, none⟩ = some (.bool x.f1) ∧ w'.cell? ⟨wr.heap.size, 2, none⟩ = some (.int .i64 x.f2) ∧ w'.cell? ⟨wr.heap.size, 3, none⟩ = some (.int .i64 x.f3) ∧ w'.cell? ⟨wr.heap.size, 4, none⟩ = some (.int .i64 x.f4) ∧ w'.cell? ⟨wr.heap.size, 5, none⟩ = some (.int .i64 x.f5) ∧ w'.cell? ⟨wr.heap.size, 6, none⟩ = some (.int .i64 x.f6) ∧ w'.cell? ⟨gx, j, none⟩ = some (.int .i64 p) ∧ w'.cell? ⟨gx, i, none⟩ = some (.int .i64 q)) (by kernel_rfl) ?_
                    have hHeld : (fun w' => w'.cell? ⟨Bx, 0, none⟩ = some (.slice (some ⟨gx, 0, none⟩) l0.length l0.length) ∧ w'.cell? ⟨wr.heap.size, 0, none⟩ = some (.bool x.f0) ∧ w'.cell? ⟨wr.heap.size, 1, none⟩ = some (.bool x.f1) ∧ w'.cell? ⟨wr.heap.size, 2, none⟩ = some (.int .i64 x.f2) ∧ w'.cell? ⟨wr.heap.size, 3, none⟩ = some (.int .i64 x.f3) ∧ w'.cell? ⟨wr.heap.size, 4, none⟩ = some (.int .i64 x.f4) ∧ w'.cell? ⟨wr.heap.size, 5, none⟩ = some (.int .i64 x.f5) ∧ w'.cell? ⟨wr.heap.size, 6, none⟩ = some (.int .i64 x.f6) ∧ w'.cell? ⟨gx, j, none⟩ = some (.int .i64 p) ∧ w'.cell? ⟨gx, i, none⟩ = some (.int .i64 q)) W0.drew := ⟨g10, b00, b10, b20, b30, b40, b50, b60, xj0, xi0⟩
                    refine Till.take 0 (v := ?_) rfl (by kernel_rfl) (by kernel_rfl) (by kernel_rfl) (by kernel_rfl) (fun _ _ _ h => h) (Or.inl ⟨by rfl, ?_⟩) hHeld ?_
                    rotate_left; · (intro w hSw; (try dsimp only at hSw); go_simp; try with_reducible rfl)
                    simp only [Act.put, List.setIfInBounds_toArray, List.set_cons_zero, List.set_cons_succ]
                    refine Till.take 1 (v := ?_) rfl (by kernel_rfl) (by kernel_rfl) (by kernel_rfl) (by kernel_rfl) (fun _ _ _ h => h) (Or.inl ⟨by rfl, ?_⟩) hHeld ?_
                    rotate_left; · (intro w hSw; (try dsimp only at hSw); go_simp; try with_reducible rfl)
                    simp only [Act.put, List.setIfInBounds_toArray, List.set_cons_zero, List.set_cons_succ]
                    refine Till.take 2 (v := ?_) rfl (by kernel_rfl) (by kernel_rfl) (by kernel_rfl) (by kernel_rfl) (fun _ _ _ h => h) (Or.inl ⟨by rfl, ?_⟩) hHeld ?_
                    rotate_left; · (intro w hSw; (try dsimp only at hSw); go_simp; try with_reducible rfl)
                    simp only [Act.put, List.setIfInBounds_toArray, List.set_cons_zero, List.set_cons_succ]
                    refine Till.take 3 (v := ?_) rfl (by kernel_rfl) (by kernel_rfl) (by kernel_rfl) (by kernel_rfl) (fun _ _ _ h => h) (Or.inl ⟨by rfl, ?_⟩) hHeld ?_
                    rotate_left; · (intro w hSw; (try dsimp only at hSw); go_simp; try with_reducible rfl)
                    simp only [Act.put, List.setIfInBounds_toArray, List.set_cons_zero, List.set_cons_succ]
                    refine Till.take 4 (v := ?_) rfl (by kernel_rfl) (by kernel_rfl) (by kernel_rfl) (by kernel_rfl) (fun _ _ _ h => h) (Or.inl ⟨by rfl, ?_⟩) hHeld ?_
                    rotate_left; · (intro w hSw; (try dsimp only at hSw); go_simp; try with_reducible rfl)
                    simp only [Act.put, List.setIfInBounds_toArray, List.set_cons_zero, List.set_cons_succ]
                    refine Till.take 5 (v := ?_) rfl (by kernel_rfl) (by kernel_rfl) (by kernel_rfl) (by kernel_rfl) (fun _ _ _ h => h) (Or.inl ⟨by rfl, ?_⟩) hHeld ?_
                    rotate_left; · (intro w hSw; (try dsimp only at hSw); go_simp; try with_reducible rfl)
                    simp only [Act.put, List.setIfInBounds_toArray, List.set_cons_zero, List.set_cons_succ]
                    refine Till.take 6 (v := ?_) rfl (by kernel_rfl) (by kernel_rfl) (by kernel_rfl) (by kernel_rfl) (fun _ _ _ h => h) (Or.inl ⟨by rfl, ?_⟩) hHeld ?_
                    rotate_left; · (intro w hSw; (try dsimp only at hSw); go_simp; try with_reducible rfl)
                    simp only [Act.put, List.setIfInBounds_toArray, List.set_cons_zero, List.set_cons_succ]
                    refine Till.take 7 (v := ?_) rfl (by kernel_rfl) (by kernel_rfl) (by kernel_rfl) (by kernel_rfl) (fun _ _ _ h => h) (Or.inl ⟨by rfl, ?_⟩) hHeld ?_
                    rotate_left; · (intro w hSw; (try dsimp only at hSw); go_simp; try with_reducible rfl)
                    simp only [Act.put, List.setIfInBounds_toArray, List.set_cons_zero, List.set_cons_succ]
                    refine Till.take 8 (v := ?_) rfl (by kernel_rfl) (by kernel_rfl) (by kernel_rfl) (by kernel_rfl) (fun _ _ _ h => h) (Or.inl ⟨by rfl, ?_⟩) hHeld ?_
                    rotate_left; · (intro w hSw; (try dsimp only at hSw); go_simp; try with_reducible rfl)
                    simp only [Act.put, List.setIfInBounds_toArray, List.set_cons_zero, List.set_cons_succ]
                    refine Till.take 10 (v := ?_) rfl (by kernel_rfl) (by kernel_rfl) (by kernel_rfl) (by kernel_rfl) (fun _ _ _ h => h) (Or.inl ⟨by rfl, ?_⟩) hHeld ?_
                    rotate_left; · (intro w hSw; (try dsimp only at hSw); go_simp; try with_reducible rfl)
                    simp only [Act.put, List.setIfInBounds_toArray, List.set_cons_zero, List.set_cons_succ]
                    refine Till.take 11 (v := ?_) rfl (by kernel_rfl) (by kernel_rfl) (by kernel_rfl) (by kernel_rfl) (fun _ _ _ h => h) (Or.inl ⟨by rfl, ?_⟩) hHeld ?_
                    rotate_left; · (intro w hSw; (try dsimp only at hSw); go_simp; try with_reducible rfl)
                    simp only [Act.put, List.setIfInBounds_toArray, List.set_cons_zero, List.set_cons_succ]
                    refine Till.take 12 (v := ?_) rfl (by kernel_rfl) (by kernel_rfl) (by kernel_rfl) (by kernel_rfl) (fun _ _ _ h => h) (Or.inl ⟨by rfl, ?_⟩) hHeld ?_
                    rotate_left; · (intro w hSw; (try dsimp only at hSw); go_simp; try with_reducible rfl)
                    simp only [Act.put, List.setIfInBounds_toArray, List.set_cons_zero, List.set_cons_succ]
                    refine Till.take 13 (v := ?_) rfl (by kernel_rfl) (by kernel_rfl) (by kernel_rfl) (by kernel_rfl) (fun _ _ _ h => h) (Or.inl ⟨by rfl, ?_⟩) hHeld ?_
                    rotate_left; · (intro w hSw; (try dsimp only at hSw); go_simp; try with_reducible rfl)
                    simp only [Act.put, List.setIfInBounds_toArray, List.set_cons_zero, List.set_cons_succ]
                    refine Till.one 9 (by kernel_rfl) rfl (fun K hK => ?_)
                    go_simp
                    go_at_call 51
                    refine (CL.out x.f2 _).mono ?_
                    rintro e w3 ⟨rfl, hb3⟩
                    have hb3' : Below W0.heap.size W0 w3 := below_step (by repeat (first | exact Below.refl _ _ | apply pw_below_drewN | apply below_drew1)) hb3
                    have ST3 := Aside0.mk (ST0.out.below hb3')
                    have BK3 := Aside0.mk (blk_below BK0.out hb3')
                    have BW3 := Aside0.mk (below_step BW0.out hb3')
                    have g13 := ST3.out.cbx
                    have b03 : World.cell? w3 ⟨wr.heap.size, 0, none⟩ = some (.bool x.f0) := (blk_cell BK3.out 0).trans rfl
                    have b13 : World.cell? w3 ⟨wr.heap.size, 1, none⟩ = some (.bool x.f1) := (blk_cell BK3.out 1).trans rfl
                    have b23 : World.cell? w3 ⟨wr.heap.size, 2, none⟩ = some (.int .i64 x.f2) := (blk_cell BK3.out 2).trans rfl
                    have b33 : World.cell? w3 ⟨wr.heap.size, 3, none⟩ = some (.int .i64 x.f3) := (blk_cell BK3.out 3).trans rfl
                    have b43 : World.cell? w3 ⟨wr.heap.size, 4, none⟩ = some (.int .i64 x.f4) := (blk_cell BK3.out 4).trans rfl
                    have b53 : World.cell? w3 ⟨wr.heap.size, 5, none⟩ = some (.int .i64 x.f5) := (blk_cell BK3.out 5).trans rfl
                    have b63 : World.cell? w3 ⟨wr.heap.size, 6, none⟩ = some (.int .i64 x.f6) := (blk_cell BK3.out 6).trans rfl
                    have xj3 := ST3.out.cx hlt
                    have xi3 := ST3.out.cx hin
                    have fj3 := blk_frozen ST3.out.x j
                    rw [HP.out] at xj3
                    rw [HQ.out] at xi3
                    refine hK.out _ _ ⟨g13, b03, b13, b23, b33, b43, b53, b63, xj3, xi3⟩ ?_
                    clear hHeld hK K hb3 hb3'
                    have hHeld : (fun w' => w'.cell? ⟨Bx, 0, none⟩ = some (.slice (some ⟨gx, 0, none⟩) l0.length l0.length) ∧ w'.cell? ⟨wr.heap.size, 0, none⟩ = some (.bool x.f0) ∧ w'.cell? ⟨wr.heap.size, 1, none⟩ = some (.bool x.f1) ∧ w'.cell? ⟨wr.heap.size, 2, none⟩ = some (.int .i64 x.f2) ∧ w'.cell? ⟨wr.heap.size, 3, none⟩ = some (.int .i64 x.f3) ∧ w'.cell? ⟨wr.heap.size, 4, none⟩ = some (.int .i64 x.f4) ∧ w'.cell? ⟨wr.heap.size, 5, none⟩ = some (.int .i64 x.f5) ∧ w'.cell? ⟨wr.heap.size, 6, none⟩ = some (.int .i64 x.f6) ∧ w'.cell? ⟨gx, j, none⟩ = some (.int .i64 p) ∧ w'.cell? ⟨gx, i, none⟩ = some (.int .i64 q)) w3 := ⟨g13, b03, b13, b23, b33, b43, b53, b63, xj3, xi3⟩
                    try simp only [Act.put, List.setIfInBounds_toArray, List.set_cons_zero, List.set_cons_succ]
                    refine Till.take 14 (v := ?_) rfl (by kernel_rfl) (by kernel_rfl) (by kernel_rfl) (by kernel_rfl) (fun _ _ _ h => h) (Or.inl ⟨by rfl, ?_⟩) hHeld ?_
                    rotate_left; · (intro w hSw; (try dsimp only at hSw); go_simp; try with_reducible rfl)
                    simp only [Act.put, List.setIfInBounds_toArray, List.set_cons_zero, List.set_cons_succ]
                    refine Till.one 15 (by kernel_rfl) rfl (fun K hK => ?_)
                    go_simp
                    go_at_call 49
                    refine (LA.out x q _).mono ?_
                    rintro e w4 ⟨rfl, hb4⟩
                    have hb4' : Below w3.heap.size w3 w4 := below_step (by repeat (first | exact Below.refl _ _ | apply pw_below_drewN | apply below_drew1)) hb4
                    have ST4 := Aside0.mk (ST3.out.below hb4')
                    have BK4 := Aside0.mk (blk_below BK3.out hb4')
                    have BW4 := Aside0.mk (below_step BW3.out hb4')
                    have g14 := ST4.out.cbx
                    have b04 : World.cell? w4 ⟨wr.heap.size, 0, none⟩ = some (.bool x.f0) := (blk_cell BK4.out 0).trans rfl
                    have b14 : World.cell? w4 ⟨wr.heap.size, 1, none⟩ = some (.bool x.f1) := (blk_cell BK4.out 1).trans rfl
                    have b24 : World.cell? w4 ⟨wr.heap.size, 2, none⟩ = some (.int .i64 x.f2) := (blk_cell BK4.out 2).trans rfl
                    have b34 : World.cell? w4 ⟨wr.heap.size, 3, none⟩ = some (.int .i64 x.f3) := (blk_cell BK4.out 3).trans rfl
                    have b44 : World.cell? w4 ⟨wr.heap.size, 4, none⟩ = some (.int .i64 x.f4) := (blk_cell BK4.out 4).trans rfl
                    have b54 : World.cell? w4 ⟨wr.heap.size, 5, none⟩ = some (.int .i64 x.f5) := (blk_cell BK4.out 5).trans rfl
                    have b64 : World.cell? w4 ⟨wr.heap.size, 6, none⟩ = some (.int .i64 x.f6) := (blk_cell BK4.out 6).trans rfl
                    have xj4 := ST4.out.cx hlt
                    have xi4 := ST4.out.cx hin
                    have fj4 := blk_frozen ST4.out.x j
                    rw [HP.out] at xj4
                    rw [HQ.out] at xi4
                    refine hK.out _ _ ⟨g14, b04, b14, b24, b34, b44, b54, b64, xj4, xi4⟩ ?_
                    clear hHeld hK K hb4 hb4'
                    have hHeld : (fun w' => w'.cell? ⟨Bx, 0, none⟩ = some (.slice (some ⟨gx, 0, none⟩) l0.length l0.length) ∧ w'.cell? ⟨wr.heap.size, 0, none⟩ = some (.bool x.f0) ∧ w'.cell? ⟨wr.heap.size, 1, none⟩ = some (.bool x.f1) ∧ w'.cell? ⟨wr.heap.size, 2, none⟩ = some (.int .i64 x.f2) ∧ w'.cell? ⟨wr.heap.size, 3, none⟩ = some (.int .i64 x.f3) ∧ w'.cell? ⟨wr.heap.size, 4, none⟩ = some (.int .i64 x.f4) ∧ w'.cell? ⟨wr.heap.size, 5, none⟩ = some (.int .i64 x.f5) ∧ w'.cell? ⟨wr.heap.size, 6, none⟩ = some (.int .i64 x.f6) ∧ w'.cell? ⟨gx, j, none⟩ = some (.int .i64 p) ∧ w'.cell? ⟨gx, i, none⟩ = some (.int .i64 q)) w4 := ⟨g14, b04, b14, b24, b34, b44, b54, b64, xj4, xi4⟩
                    try simp only [Act.put, List.setIfInBounds_toArray, List.set_cons_zero, List.set_cons_succ]
                    refine Till.take 16 (v := ?_) rfl (by kernel_rfl) (by kernel_rfl) (by kernel_rfl) (by kernel_rfl) (fun _ _ _ h => h) (Or.inl ⟨by rfl, ?_⟩) hHeld ?_
                    rotate_left; · (intro w hSw; (try dsimp only at hSw); go_simp; try with_reducible rfl)
                    simp only [Act.put, List.setIfInBounds_toArray, List.set_cons_zero, List.set_cons_succ]
                    refine Till.take 17 (v := ?_) rfl (by kernel_rfl) (by kernel_rfl) (by kernel_rfl) (by kernel_rfl) (fun _ _ _ h => h) (Or.inl ⟨by rfl, ?_⟩) hHeld ?_
                    rotate_left; · (intro w hSw; (try dsimp only at hSw); go_simp; try with_reducible rfl)
                    simp only [Act.put, List.setIfInBounds_toArray, List.set_cons_zero, List.set_cons_succ]
                    refine Till.last 18 (by kernel_rfl) rfl (by kernel_rfl) (fun K hK => ?_)
                    go_simp
                    refine hK.out _ _ ?_
                    clear hK K
                    try simp only [Act.put, List.setIfInBounds_toArray, List.set_cons_zero, List.set_cons_succ]
                    go_wp2
                    go_roundg (l0.length - (j + 1))
                    case measure => have := HG.out; omega
                    case rel => exact ⟨j + 1, by omega, by omega, by go_num, ⟨by rw [HST.out]; exact ST4.out.setx j _⟩, ⟨below_set BW4.out LE.out.1⟩⟩
                  · replace HST : Aside0 (lbts_Outputs.relax la cl l0 (os.set i false) (l0.map (lbts_Outputs.h0 ow)) i xs (j + 1) = ys.set j p) := ⟨by
                      rw [HST.out, show mx (cl x.f2) q = q from by unfold mx; omega]
                      rw [show mn p (la x q) = p from by unfold mn; omega]; exact if_pos rfl⟩
                    have hm2' : ¬ la x q < p := by omega
                    refine Till.begin 18 (fun w' => w'.cell? ⟨Bx, 0, none⟩ = some (.slice (some ⟨gx, 0, none⟩) l0.length l0.length) ∧ w'.cell? ⟨wr.heap.size, 0, none⟩ = some (.bool x.f0) ∧ w'.cell? ⟨wr.heap.size, 1, none⟩ = some (.bool x.f1) ∧ w'.cell? ⟨wr.heap.size, 2, none⟩ = some (.int .i64 x.f2) ∧ w'.cell? ⟨wr.heap.size, 3, none⟩ = some (.int .i64 x.f3) ∧ w'.cell? ⟨wr.heap.size, 4, none⟩ = some (.int .i64 x.f4) ∧ w'.cell? ⟨wr.heap.size, 5, none⟩ = some (.int .i64 x.f5) ∧ w'.cell? ⟨wr.heap.size, 6, none⟩ = some (.int .i64 x.f6) ∧ w'.cell? ⟨gx, j, none⟩ = some (.int .i64 p) ∧ w'.cell? ⟨gx, i, none⟩ = some (.int .i64 q)) (by kernel_rfl) ?_
                    have hHeld : (fun w' => w'.cell? ⟨Bx, 0, none⟩ = some (.slice (some ⟨gx, 0, none⟩) l0.length l0.length) ∧ w'.cell? ⟨wr.heap.size, 0, none⟩ = some (.bool x.f0) ∧ w'.cell? ⟨wr.heap.size, 1, none⟩ = some (.bool x.f1) ∧ w'.cell? ⟨wr.heap.size, 2, none⟩ = some (.int .i64 x.f2) ∧ w'.cell? ⟨wr.heap.size, 3, none⟩ = some (.int .i64 x.f3) ∧ w'.cell? ⟨wr.heap.size, 4, none⟩ = some (.int .i64 x.f4) ∧ w'.cell? ⟨wr.heap.size, 5, none⟩ = some (.int .i64 x.f5) ∧ w'.cell? ⟨wr.heap.size, 6, none⟩ = some (.int .i64 x.f6) ∧ w'.cell? ⟨gx, j, none⟩ = some (.int .i64 p) ∧ w'.cell? ⟨gx, i, none⟩ = some (.int .i64 q)) W0.drew := ⟨g10, b00, b10, b20, b30, b40, b50, b60, xj0, xi0⟩
                    refine Till.take 0 (v := ?_) rfl (by kernel_rfl) (by kernel_rfl) (by kernel_rfl) (by kernel_rfl) (fun _ _ _ h => h) (Or.inl ⟨by rfl, ?_⟩) hHeld ?_
                    rotate_left; · (intro w hSw; (try dsimp only at hSw); go_simp; try with_reducible rfl)
                    simp only [Act.put, List.setIfInBounds_toArray, List.set_cons_zero, List.set_cons_succ]
                    refine Till.take 1 (v := ?_) rfl (by kernel_rfl) (by kernel_rfl) (by kernel_rfl) (by kernel_rfl) (fun _ _ _ h => h) (Or.inl ⟨by rfl, ?_⟩) hHeld ?_
                    rotate_left; · (intro w hSw; (try dsimp only at hSw); go_simp; try with_reducible rfl)
                    simp only [Act.put, List.setIfInBounds_toArray, List.set_cons_zero, List.set_cons_succ]
                    refine Till.take 2 (v := ?_) rfl (by kernel_rfl) (by kernel_rfl) (by kernel_rfl) (by kernel_rfl) (fun _ _ _ h => h) (Or.inl ⟨by rfl, ?_⟩) hHeld ?_
                    rotate_left; · (intro w hSw; (try dsimp only at hSw); go_simp; try with_reducible rfl)
                    simp only [Act.put, List.setIfInBounds_toArray, List.set_cons_zero, List.set_cons_succ]
                    refine Till.take 3 (v := ?_) rfl (by kernel_rfl) (by kernel_rfl) (by kernel_rfl) (by kernel_rfl) (fun _ _ _ h => h) (Or.inl ⟨by rfl, ?_⟩) hHeld ?_
                    rotate_left; · (intro w hSw; (try dsimp only at hSw); go_simp; try with_reducible rfl)
                    simp only [Act.put, List.setIfInBounds_toArray, List.set_cons_zero, List.set_cons_succ]
                    refine Till.take 4 (v := ?_) rfl (by kernel_rfl) (by kernel_rfl) (by kernel_rfl) (by kernel_rfl) (fun _ _ _ h => h) (Or.inl ⟨by rfl, ?_⟩) hHeld ?_
                    rotate_left; · (intro w hSw; (try dsimp only at hSw); go_simp; try with_reducible rfl)
                    simp only [Act.put, List.setIfInBounds_toArray, List.set_cons_zero, List.set_cons_succ]
                    refine Till.take 5 (v := ?_) rfl (by kernel_rfl) (by kernel_rfl) (by kernel_rfl) (by kernel_rfl) (fun _ _ _ h => h) (Or.inl ⟨by rfl, ?_⟩) hHeld ?_
                    rotate_left; · (intro w hSw; (try dsimp only at hSw); go_simp; try with_reducible rfl)
                    simp only [Act.put, List.setIfInBounds_toArray, List.set_cons_zero, List.set_cons_succ]
                    refine Till.take 6 (v := ?_) rfl (by kernel_rfl) (by kernel_rfl) (by kernel_rfl) (by kernel_rfl) (fun _ _ _ h => h) (Or.inl ⟨by rfl, ?_⟩) hHeld ?_
                    rotate_left; · (intro w hSw; (try dsimp only at hSw); go_simp; try with_reducible rfl)
                    simp only [Act.put, List.setIfInBounds_toArray, List.set_cons_zero, List.set_cons_succ]
                    refine Till.take 7 (v := ?_) rfl (by kernel_rfl) (by kernel_rfl) (by kernel_rfl) (by kernel_rfl) (fun _ _ _ h => h) (Or.inl ⟨by rfl, ?_⟩) hHeld ?_
                    rotate_left; · (intro w hSw; (try dsimp only at hSw); go_simp; try with_reducible rfl)
                    simp only [Act.put, List.setIfInBounds_toArray, List.set_cons_zero, List.set_cons_succ]
                    refine Till.take 8 (v := ?_) rfl (by kernel_rfl) (by kernel_rfl) (by kernel_rfl) (by kernel_rfl) (fun _ _ _ h => h) (Or.inl ⟨by rfl, ?_⟩) hHeld ?_
                    rotate_left; · (intro w hSw; (try dsimp only at hSw); go_simp; try with_reducible rfl)
                    simp only [Act.put, List.setIfInBounds_toArray, List.set_cons_zero, List.set_cons_succ]
                    refine Till.take 10 (v := ?_) rfl (by kernel_rfl) (by kernel_rfl) (by kernel_rfl) (by kernel_rfl) (fun _ _ _ h => h) (Or.inl ⟨by rfl, ?_⟩) hHeld ?_
                    rotate_left; · (intro w hSw; (try dsimp only at hSw); go_simp; try with_reducible rfl)
                    simp only [Act.put, List.setIfInBounds_toArray, List.set_cons_zero, List.set_cons_succ]
                    refine Till.take 11 (v := ?_) rfl (by kernel_rfl) (by kernel_rfl) (by kernel_rfl) (by kernel_rfl) (fun _ _ _ h => h) (Or.inl ⟨by rfl, ?_⟩) hHeld ?_
                    rotate_left; · (intro w hSw; (try dsimp only at hSw); go_simp; try with_reducible rfl)
                    simp only [Act.put, List.setIfInBounds_toArray, List.set_cons_zero, List.set_cons_succ]
                    refine Till.take 12 (v := ?_) rfl (by kernel_rfl) (by kernel_rfl) (by kernel_rfl) (by kernel_rfl) (fun _ _ _ h => h) (Or.inl ⟨by rfl, ?_⟩) hHeld ?_
                    rotate_left; · (intro w hSw; (try dsimp only at hSw); go_simp; try with_reducible rfl)
                    simp only [Act.put, List.setIfInBounds_toArray, List.set_cons_zero, List.set_cons_succ]
                    refine Till.take 13 (v := ?_) rfl (by kernel_rfl) (by kernel_rfl) (by kernel_rfl) (by kernel_rfl) (fun _ _ _ h => h) (Or.inl ⟨by rfl, ?_⟩) hHeld ?_
                    rotate_left; · (intro w hSw; (try dsimp only at hSw); go_simp; try with_reducible rfl)
                    simp only [Act.put, List.setIfInBounds_toArray, List.set_cons_zero, List.set_cons_succ]
                    refine Till.one 9 (by kernel_rfl) rfl (fun K hK => ?_)
                    go_simp
                    go_at_call 51
                    refine (CL.out x.f2 _).mono ?_
                    rintro e w3 ⟨rfl, hb3⟩
                    have hb3' : Below W0.heap.size W0 w3 := below_step (by repeat (first | exact Below.refl _ _ | apply pw_below_drewN | apply below_drew1)) hb3
                    have ST3 := Aside0.mk (ST0.out.below hb3')
                    have BK3 := Aside0.mk (blk_below BK0.out hb3')
                    have BW3 := Aside0.mk (below_step BW0.out hb3')
                    have g13 := ST3.out.cbx
                    have b03 : World.cell? w3 ⟨wr.heap.size, 0, none⟩ = some (.bool x.f0) := (blk_cell BK3.out 0).trans rfl
                    have b13 : World.cell? w3 ⟨wr.heap.size, 1, none⟩ = some (.bool x.f1) := (blk_cell BK3.out 1).trans rfl
                    have b23 : World.cell? w3 ⟨wr.heap.size, 2, none⟩ = some (.int .i64 x.f2) := (blk_cell BK3.out 2).trans rfl
                    have b33 : World.cell? w3 ⟨wr.heap.size, 3, none⟩ = some (.int .i64 x.f3) := (blk_cell BK3.out 3).trans rfl
                    have b43 : World.cell? w3 ⟨wr.heap.size, 4, none⟩ = some (.int .i64 x.f4) := (blk_cell BK3.out 4).trans rfl
                    have b53 : World.cell? w3 ⟨wr.heap.size, 5, none⟩ = some (.int .i64 x.f5) := (blk_cell BK3.out 5).trans rfl
                    have b63 : World.cell? w3 ⟨wr.heap.size, 6, none⟩ = some (.int .i64 x.f6) := (blk_cell BK3.out 6).trans rfl
                    have xj3 := ST3.out.cx hlt
                    have xi3 := ST3.out.cx hin
                    have fj3 := blk_frozen ST3.out.x j
                    rw [HP.out] at xj3
                    rw [HQ.out] at xi3
                    refine hK.out _ _ ⟨g13, b03, b13, b23, b33, b43, b53, b63, xj3, xi3⟩ ?_
                    clear hHeld hK K hb3 hb3'
                    have hHeld : (fun w' => w'.cell? ⟨Bx, 0, none⟩ = some (.slice (some ⟨gx, 0, none⟩) l0.length l0.length) ∧ w'.cell? ⟨wr.heap.size, 0, none⟩ = some (.bool x.f0) ∧ w'.cell? ⟨wr.heap.size, 1, none⟩ = some (.bool x.f1) ∧ w'.cell? ⟨wr.heap.size, 2, none⟩ = some (.int .i64 x.f2) ∧ w'.cell? ⟨wr.heap.size, 3, none⟩ = some (.int .i64 x.f3) ∧ w'.cell? ⟨wr.heap.size, 4, none⟩ = some (.int .i64 x.f4) ∧ w'.cell? ⟨wr.heap.size, 5, none⟩ = some (.int .i64 x.f5) ∧ w'.cell? ⟨wr.heap.size, 6, none⟩ = some (.int .i64 x.f6) ∧ w'.cell? ⟨gx, j, none⟩ = some (.int .i64 p) ∧ w'.cell? ⟨gx, i, none⟩ = some (.int .i64 q)) w3 := ⟨g13, b03, b13, b23, b33, b43, b53, b63, xj3, xi3⟩
                    try simp only [Act.put, List.setIfInBounds_toArray, List.set_cons_zero, List.set_cons_succ]
                    refine Till.take 14 (v := ?_) rfl (by kernel_rfl) (by kernel_rfl) (by kernel_rfl) (by kernel_rfl) (fun _ _ _ h => h) (Or.inl ⟨by rfl, ?_⟩) hHeld ?_
                    rotate_left; · (intro w hSw; (try dsimp only at hSw); go_simp; try with_reducible rfl)
                    simp only [Act.put, List.setIfInBounds_toArray, List.set_cons_zero, List.set_cons_succ]
                    refine Till.one 15 (by kernel_rfl) rfl (fun K hK => ?_)
                    go_simp
                    go_at_call 49
                    refine (LA.out x q _).mono ?_
                    rintro e w4 ⟨rfl, hb4⟩
                    have hb4' : Below w3.heap.size w3 w4 := below_step (by repeat (first | exact Below.refl _ _ | apply pw_below_drewN | apply below_drew1)) hb4
                    have ST4 := Aside0.mk (ST3.out.below hb4')
                    have BK4 := Aside0.mk (blk_below BK3.out hb4')
                    have BW4 := Aside0.mk (below_step BW3.out hb4')
                    have g14 := ST4.out.cbx
                    have b04 : World.cell? w4 ⟨wr.heap.size, 0, none⟩ = some (.bool x.f0) := (blk_cell BK4.out 0).trans rfl
                    have b14 : World.cell? w4 ⟨wr.heap.size, 1, none⟩ = some (.bool x.f1) := (blk_cell BK4.out 1).trans rfl
                    have b24 : World.cell? w4 ⟨wr.heap.size, 2, none⟩ = some (.int .i64 x.f2) := (blk_cell BK4.out 2).trans rfl
                    have b34 : World.cell? w4 ⟨wr.heap.size, 3, none⟩ = some (.int .i64 x.f3) := (blk_cell BK4.out 3).trans rfl
                    have b44 : World.cell? w4 ⟨wr.heap.size, 4, none⟩ = some (.int .i64 x.f4) := (blk_cell BK4.out 4).trans rfl
                    have b54 : World.cell? w4 ⟨wr.heap.size, 5, none⟩ = some (.int .i64 x.f5) := (blk_cell BK4.out 5).trans rfl
                    have b64 : World.cell? w4 ⟨wr.heap.size, 6, none⟩ = some (.int .i64 x.f6) := (blk_cell BK4.out 6).trans rfl
                    have xj4 := ST4.out.cx hlt
                    have xi4 := ST4.out.cx hin
                    have fj4 := blk_frozen ST4.out.x j
                    rw [HP.out] at xj4
                    rw [HQ.out] at xi4
                    refine hK.out _ _ ⟨g14, b04, b14, b24, b34, b44, b54, b64, xj4, xi4⟩ ?_
                    clear hHeld hK K hb4 hb4'
                    have hHeld : (fun w' => w'.cell? ⟨Bx, 0, none⟩ = some (.slice (some ⟨gx, 0, none⟩) l0.length l0.length) ∧ w'.cell? ⟨wr.heap.size, 0, none⟩ = some (.bool x.f0) ∧ w'.cell? ⟨wr.heap.size, 1, none⟩ = some (.bool x.f1) ∧ w'.cell? ⟨wr.heap.size, 2, none⟩ = some (.int .i64 x.f2) ∧ w'.cell? ⟨wr.heap.size, 3, none⟩ = some (.int .i64 x.f3) ∧ w'.cell? ⟨wr.heap.size, 4, none⟩ = some (.int .i64 x.f4) ∧ w'.cell? ⟨wr.heap.size, 5, none⟩ = some (.int .i64 x.f5) ∧ w'.cell? ⟨wr.heap.size, 6, none⟩ = some (.int .i64 x.f6) ∧ w'.cell? ⟨gx, j, none⟩ = some (.int .i64 p) ∧ w'.cell? ⟨gx, i, none⟩ = some (.int .i64 q)) w4 := ⟨g14, b04, b14, b24, b34, b44, b54, b64, xj4, xi4⟩
                    try simp only [Act.put, List.setIfInBounds_toArray, List.set_cons_zero, List.set_cons_succ]
                    refine Till.take 16 (v := ?_) rfl (by kernel_rfl) (by kernel_rfl) (by kernel_rfl) (by kernel_rfl) (fun _ _ _ h => h) (Or.inl ⟨by rfl, ?_⟩) hHeld ?_
                    rotate_left; · (intro w hSw; (try dsimp only at hSw); go_simp; try with_reducible rfl)
                    simp only [Act.put, List.setIfInBounds_toArray, List.set_cons_zero, List.set_cons_succ]
                    refine Till.take 17 (v := ?_) rfl (by kernel_rfl) (by kernel_rfl) (by kernel_rfl) (by kernel_rfl) (fun _ _ _ h => h) (Or.inl ⟨by rfl, ?_⟩) hHeld ?_
                    rotate_left; · (intro w hSw; (try dsimp only at hSw); go_simp; try with_reducible rfl)
                    simp only [Act.put, List.setIfInBounds_toArray, List.set_cons_zero, List.set_cons_succ]
                    refine Till.last 18 (by kernel_rfl) rfl (by kernel_rfl) (fun K hK => ?_)
                    go_simp
                    refine hK.out _ _ ?_
                    clear hK K
                    try simp only [Act.put, List.setIfInBounds_toArray, List.set_cons_zero, List.set_cons_succ]
                    go_wp2
                    go_roundg (l0.length - (j + 1))
                    case measure => have := HG.out; omega
                    case rel => exact ⟨j + 1, by omega, by omega, by go_num, ⟨by rw [HST.out]; exact ST4.out.setx j _⟩, ⟨below_set BW4.out LE.out.1⟩⟩
                · have hm1' : ¬ cl x.f2 < q := by omega
                  rcases Int.lt_or_le (la x (cl x.f2)) p with hm2 | hm2
                  · replace HST : Aside0 (lbts_Outputs.relax la cl l0 (os.set i false) (l0.map (lbts_Outputs.h0 ow)) i xs (j + 1) = ys.set j (la x (cl x.f2))) := ⟨by
                      rw [HST.out, show mx (cl x.f2) q = (cl x.f2) from by unfold mx; omega]
                      rw [show mn p (la x (cl x.f2)) = (la x (cl x.f2)) from by unfold mn; omega]; exact if_pos rfl⟩
                    refine Till.begin 18 (fun w' => w'.cell? ⟨Bx, 0, none⟩ = some (.slice (some ⟨gx, 0, none⟩) l0.length l0.length) ∧ w'.cell? ⟨wr.heap.size, 0, none⟩ = some (.bool x.f0) ∧ w'.cell? ⟨wr.heap.size, 1, none⟩ = some (.bool x.f1) ∧ w'.cell? ⟨wr.heap.size, 2, none⟩ = some (.int .i64 x.f2) ∧ w'.cell? ⟨wr.heap.size, 3, none⟩ = some (.int .i64 x.f3) ∧ w'.cell? ⟨wr.heap.size, 4, none⟩ = some (.int .i64 x.f4) ∧ w'.cell? ⟨wr.heap.size, 5, none⟩ = some (.int .i64 x.f5) ∧ w'.cell? ⟨wr.heap.size, 6, none⟩ = some (.int .i64 x.f6) ∧ w'.cell? ⟨gx, j, none⟩ = some (.int .i64 p) ∧ w'.cell? ⟨gx, i, none⟩ = some (.int .i64 q)) (by kernel_rfl) ?_
                    have hHeld : (fun w' => w'.cell? ⟨Bx, 0, none⟩ = some (.slice (some ⟨gx, 0, none⟩) l0.length l0.length) ∧ w'.cell? ⟨wr.heap.size, 0, none⟩ = some (.bool x.f0) ∧ w'.cell? ⟨wr.heap.size, 1, none⟩ = some (.bool x.f1) ∧ w'.cell? ⟨wr.heap.size, 2, none⟩ = some (.int .i64 x.f2) ∧ w'.cell? ⟨wr.heap.size, 3, none⟩ = some (.int .i64 x.f3) ∧ w'.cell? ⟨wr.heap.size, 4, none⟩ = some (.int .i64 x.f4) ∧ w'.cell? ⟨wr.heap.size, 5, none⟩ = some (.int .i64 x.f5) ∧ w'.cell? ⟨wr.heap.size, 6, none⟩ = some (.int .i64 x.f6) ∧ w'.cell? ⟨gx, j, none⟩ = some (.int .i64 p) ∧ w'.cell? ⟨gx, i, none⟩ = some (.int .i64 q)) W0.drew := ⟨g10, b00, b10, b20, b30, b40, b50, b60, xj0, xi0⟩
                    refine Till.take 0 (v := ?_) rfl (by kernel_rfl) (by kernel_rfl) (by kernel_rfl) (by kernel_rfl) (fun _ _ _ h => h) (Or.inl ⟨by rfl, ?_⟩) hHeld ?_
                    rotate_left; · (intro w hSw; (try dsimp only at hSw); go_simp; try with_reducible rfl)
                    simp only [Act.put, List.setIfInBounds_toArray, List.set_cons_zero, List.set_cons_succ]
                    refine Till.take 1 (v := ?_) rfl (by kernel_rfl) (by kernel_rfl) (by kernel_rfl) (by kernel_rfl) (fun _ _ _ h => h) (Or.inl ⟨by rfl, ?_⟩) hHeld ?_
                    rotate_left; · (intro w hSw; (try dsimp only at hSw); go_simp; try with_reducible rfl)
                    simp only [Act.put, List.setIfInBounds_toArray, List.set_cons_zero, List.set_cons_succ]
                    refine Till.take 2 (v := ?_) rfl (by kernel_rfl) (by kernel_rfl) (by kernel_rfl) (by kernel_rfl) (fun _ _ _ h => h) (Or.inl ⟨by rfl, ?_⟩) hHeld ?_
                    rotate_left; · (intro w hSw; (try dsimp only at hSw); go_simp; try with_reducible rfl)
                    simp only [Act.put, List.setIfInBounds_toArray, List.set_cons_zero, List.set_cons_succ]
                    refine Till.take 3 (v := ?_) rfl (by kernel_rfl) (by kernel_rfl) (by kernel_rfl) (by kernel_rfl) (fun _ _ _ h => h) (Or.inl ⟨by rfl, ?_⟩) hHeld ?_
                    rotate_left; · (intro w hSw; (try dsimp only at hSw); go_simp; try with_reducible rfl)
                    simp only [Act.put, List.setIfInBounds_toArray, List.set_cons_zero, List.set_cons_succ]
                    refine Till.take 4 (v := ?_) rfl (by kernel_rfl) (by kernel_rfl) (by kernel_rfl) (by kernel_rfl) (fun _ _ _ h => h) (Or.inl ⟨by rfl, ?_⟩) hHeld ?_
                    rotate_left; · (intro w hSw; (try dsimp only at hSw); go_simp; try with_reducible rfl)
                    simp only [Act.put, List.setIfInBounds_toArray, List.set_cons_zero, List.set_cons_succ]
                    refine Till.take 5 (v := ?_) rfl (by kernel_rfl) (by kernel_rfl) (by kernel_rfl) (by kernel_rfl) (fun _ _ _ h => h) (Or.inl ⟨by rfl, ?_⟩) hHeld ?_
                    rotate_left; · (intro w hSw; (try dsimp only at hSw); go_simp; try with_reducible rfl)
                    simp only [Act.put, List.setIfInBounds_toArray, List.set_cons_zero, List.set_cons_succ]
                    refine Till.take 6 (v := ?_) rfl (by kernel_rfl) (by kernel_rfl) (by kernel_rfl) (by kernel_rfl) (fun _ _ _ h => h) (Or.inl ⟨by rfl, ?_⟩) hHeld ?_
                    rotate_left; · (intro w hSw; (try dsimp only at hSw); go_simp; try with_reducible rfl)
                    simp only [Act.put, List.setIfInBounds_toArray, List.set_cons_zero, List.set_cons_succ]
                    refine Till.take 7 (v := ?_) rfl (by kernel_rfl) (by kernel_rfl) (by kernel_rfl) (by kernel_rfl) (fun _ _ _ h => h) (Or.inl ⟨by rfl, ?_⟩) hHeld ?_
                    rotate_left; · (intro w hSw; (try dsimp only at hSw); go_simp; try with_reducible rfl)
                    simp only [Act.put, List.setIfInBounds_toArray, List.set_cons_zero, List.set_cons_succ]
                    refine Till.take 8 (v := ?_) rfl (by kernel_rfl) (by kernel_rfl) (by kernel_rfl) (by kernel_rfl) (fun _ _ _ h => h) (Or.inl ⟨by rfl, ?_⟩) hHeld ?_
                    rotate_left; · (intro w hSw; (try dsimp only at hSw); go_simp; try with_reducible rfl)
                    simp only [Act.put, List.setIfInBounds_toArray, List.set_cons_zero, List.set_cons_succ]
                    refine Till.take 10 (v := ?_) rfl (by kernel_rfl) (by kernel_rfl) (by kernel_rfl) (by kernel_rfl) (fun _ _ _ h => h) (Or.inl ⟨by rfl, ?_⟩) hHeld ?_
                    rotate_left; · (intro w hSw; (try dsimp only at hSw); go_simp; try with_reducible rfl)
                    simp only [Act.put, List.setIfInBounds_toArray, List.set_cons_zero, List.set_cons_succ]
                    refine Till.take 11 (v := ?_) rfl (by kernel_rfl) (by kernel_rfl) (by kernel_rfl) (by kernel_rfl) (fun _ _ _ h => h) (Or.inl ⟨by rfl, ?_⟩) hHeld ?_
                    rotate_left; · (intro w hSw; (try dsimp only at hSw); go_simp; try with_reducible rfl)
                    simp only [Act.put, List.setIfInBounds_toArray, List.set_cons_zero, List.set_cons_succ]
                    refine Till.take 12 (v := ?_) rfl (by kernel_rfl) (by kernel_rfl) (by kernel_rfl) (by kernel_rfl) (fun _ _ _ h => h) (Or.inl ⟨by rfl, ?_⟩) hHeld ?_
                    rotate_left; · (intro w hSw; (try dsimp only at hSw); go_simp; try with_reducible rfl)
                    simp only [Act.put, List.setIfInBounds_toArray, List.set_cons_zero, List.set_cons_succ]
                    refine Till.take 13 (v := ?_) rfl (by kernel_rfl) (by kernel_rfl) (by kernel_rfl) (by kernel_rfl) (fun _ _ _ h => h) (Or.inl ⟨by rfl, ?_⟩) hHeld ?_
                    rotate_left; · (intro w hSw; (try dsimp only at hSw); go_simp; try with_reducible rfl)
                    simp only [Act.put, List.setIfInBounds_toArray, List.set_cons_zero, List.set_cons_succ]
                    refine Till.one 9 (by kernel_rfl) rfl (fun K hK => ?_)
                    go_simp
                    go_at_call 51
                    refine (CL.out x.f2 _).mono ?_
                    rintro e w3 ⟨rfl, hb3⟩
                    have hb3' : Below W0.heap.size W0 w3 := below_step (by repeat (first | exact Below.refl _ _ | apply pw_below_drewN | apply below_drew1)) hb3
                    have ST3 := Aside0.mk (ST0.out.below hb3')
                    have BK3 := Aside0.mk (blk_below BK0.out hb3')
                    have BW3 := Aside0.mk (below_step BW0.out hb3')
                    have g13 := ST3.out.cbx
                    have b03 : World.cell? w3 ⟨wr.heap.size, 0, none⟩ = some (.bool x.f0) := (blk_cell BK3.out 0).trans rfl
                    have b13 : World.cell? w3 ⟨wr.heap.size, 1, none⟩ = some (.bool x.f1) := (blk_cell BK3.out 1).trans rfl
                    have b23 : World.cell? w3 ⟨wr.heap.size, 2, none⟩ = some (.int .i64 x.f2) := (blk_cell BK3.out 2).trans rfl
                    have b33 : World.cell? w3 ⟨wr.heap.size, 3, none⟩ = some (.int .i64 x.f3) := (blk_cell BK3.out 3).trans rfl
                    have b43 : World.cell? w3 ⟨wr.heap.size, 4, none⟩ = some (.int .i64 x.f4) := (blk_cell BK3.out 4).trans rfl
                    have b53 : World.cell? w3 ⟨wr.heap.size, 5, none⟩ = some (.int .i64 x.f5) := (blk_cell BK3.out 5).trans rfl
                    have b63 : World.cell? w3 ⟨wr.heap.size, 6, none⟩ = some (.int .i64 x.f6) := (blk_cell BK3.out 6).trans rfl
                    have xj3 := ST3.out.cx hlt
                    have xi3 := ST3.out.cx hin
                    have fj3 := blk_frozen ST3.out.x j
                    rw [HP.out] at xj3
                    rw [HQ.out] at xi3
                    refine hK.out _ _ ⟨g13, b03, b13, b23, b33, b43, b53, b63, xj3, xi3⟩ ?_
                    clear hHeld hK K hb3 hb3'
                    have hHeld : (fun w' => w'.cell? ⟨Bx, 0, none⟩ = some (.slice (some ⟨gx, 0, none⟩) l0.length l0.length) ∧ w'.cell? ⟨wr.heap.size, 0, none⟩ = some (.bool x.f0) ∧ w'.cell? ⟨wr.heap.size, 1, none⟩ = some (.bool x.f1) ∧ w'.cell? ⟨wr.heap.size, 2, none⟩ = some (.int .i64 x.f2) ∧ w'.cell? ⟨wr.heap.size, 3, none⟩ = some (.int .i64 x.f3) ∧ w'.cell? ⟨wr.heap.size, 4, none⟩ = some (.int .i64 x.f4) ∧ w'.cell? ⟨wr.heap.size, 5, none⟩ = some (.int .i64 x.f5) ∧ w'.cell? ⟨wr.heap.size, 6, none⟩ = some (.int .i64 x.f6) ∧ w'.cell? ⟨gx, j, none⟩ = some (.int .i64 p) ∧ w'.cell? ⟨gx, i, none⟩ = some (.int .i64 q)) w3 := ⟨g13, b03, b13, b23, b33, b43, b53, b63, xj3, xi3⟩
                    try simp only [Act.put, List.setIfInBounds_toArray, List.set_cons_zero, List.set_cons_succ]
                    refine Till.take 14 (v := ?_) rfl (by kernel_rfl) (by kernel_rfl) (by kernel_rfl) (by kernel_rfl) (fun _ _ _ h => h) (Or.inl ⟨by rfl, ?_⟩) hHeld ?_
                    rotate_left; · (intro w hSw; (try dsimp only at hSw); go_simp; try with_reducible rfl)
                    simp only [Act.put, List.setIfInBounds_toArray, List.set_cons_zero, List.set_cons_succ]
                    refine Till.one 15 (by kernel_rfl) rfl (fun K hK => ?_)
                    go_simp
                    go_at_call 49
                    refine (LA.out x (cl x.f2) _).mono ?_
                    rintro e w4 ⟨rfl, hb4⟩
                    have hb4' : Below w3.heap.size w3 w4 := below_step (by repeat (first | exact Below.refl _ _ | apply pw_below_drewN | apply below_drew1)) hb4
                    have ST4 := Aside0.mk (ST3.out.below hb4')
                    have BK4 := Aside0.mk (blk_below BK3.out hb4')
                    have BW4 := Aside0.mk (below_step BW3.out hb4')
                    have g14 := ST4.out.cbx
                    have b04 : World.cell? w4 ⟨wr.heap.size, 0, none⟩ = some (.bool x.f0) := (blk_cell BK4.out 0).trans rfl
                    have b14 : World.cell? w4 ⟨wr.heap.size, 1, none⟩ = some (.bool x.f1) := (blk_cell BK4.out 1).trans rfl
                    have b24 : World.cell? w4 ⟨wr.heap.size, 2, none⟩ = some (.int .i64 x.f2) := (blk_cell BK4.out 2).trans rfl
                    have b34 : World.cell? w4 ⟨wr.heap.size, 3, none⟩ = some (.int .i64 x.f3) := (blk_cell BK4.out 3).trans rfl
                    have b44 : World.cell? w4 ⟨wr.heap.size, 4, none⟩ = some (.int .i64 x.f4) := (blk_cell BK4.out 4).trans rfl
                    have b54 : World.cell? w4 ⟨wr.heap.size, 5, none⟩ = some (.int .i64 x.f5) := (blk_cell BK4.out 5).trans rfl
                    have b64 : World.cell? w4 ⟨wr.heap.size, 6, none⟩ = some (.int .i64 x.f6) := (blk_cell BK4.out 6).trans rfl
                    have xj4 := ST4.out.cx hlt
                    have xi4 := ST4.out.cx hin
                    have fj4 := blk_frozen ST4.out.x j
                    rw [HP.out] at xj4
                    rw [HQ.out] at xi4
                    refine hK.out _ _ ⟨g14, b04, b14, b24, b34, b44, b54, b64, xj4, xi4⟩ ?_
                    clear hHeld hK K hb4 hb4'
                    have hHeld : (fun w' => w'.cell? ⟨Bx, 0, none⟩ = some (.slice (some ⟨gx, 0, none⟩) l0.length l0.length) ∧ w'.cell? ⟨wr.heap.size, 0, none⟩ = some (.bool x.f0) ∧ w'.cell? ⟨wr.heap.size, 1, none⟩ = some (.bool x.f1) ∧ w'.cell? ⟨wr.heap.size, 2, none⟩ = some (.int .i64 x.f2) ∧ w'.cell? ⟨wr.heap.size, 3, none⟩ = some (.int .i64 x.f3) ∧ w'.cell? ⟨wr.heap.size, 4, none⟩ = some (.int .i64 x.f4) ∧ w'.cell? ⟨wr.heap.size, 5, none⟩ = some (.int .i64 x.f5) ∧ w'.cell? ⟨wr.heap.size, 6, none⟩ = some (.int .i64 x.f6) ∧ w'.cell? ⟨gx, j, none⟩ = some (.int .i64 p) ∧ w'.cell? ⟨gx, i, none⟩ = some (.int .i64 q)) w4 := ⟨g14, b04, b14, b24, b34, b44, b54, b64, xj4, xi4⟩
                    try simp only [Act.put, List.setIfInBounds_toArray, List.set_cons_zero, List.set_cons_succ]
                    refine Till.take 16 (v := ?_) rfl (by kernel_rfl) (by kernel_rfl) (by kernel_rfl) (by kernel_rfl) (fun _ _ _ h => h) (Or.inl ⟨by rfl, ?_⟩) hHeld ?_
                    rotate_left; · (intro w hSw; (try dsimp only at hSw); go_simp; try with_reducible rfl)
                    simp only [Act.put, List.setIfInBounds_toArray, List.set_cons_zero, List.set_cons_succ]
                    refine Till.take 17 (v := ?_) rfl (by kernel_rfl) (by kernel_rfl) (by kernel_rfl) (by kernel_rfl) (fun _ _ _ h => h) (Or.inl ⟨by rfl, ?_⟩) hHeld ?_
                    rotate_left; · (intro w hSw; (try dsimp only at hSw); go_simp; try with_reducible rfl)
                    simp only [Act.put, List.setIfInBounds_toArray, List.set_cons_zero, List.set_cons_succ]
                    refine Till.last 18 (by kernel_rfl) rfl (by kernel_rfl) (fun K hK => ?_)
                    go_simp
                    refine hK.out _ _ ?_
                    clear hK K
                    try simp only [Act.put, List.setIfInBounds_toArray, List.set_cons_zero, List.set_cons_succ]
                    go_wp2
                    go_roundg (l0.length - (j + 1))
                    case measure => have := HG.out; omega
                    case rel => exact ⟨j + 1, by omega, by omega, by go_num, ⟨by rw [HST.out]; exact ST4.out.setx j _⟩, ⟨below_set BW4.out LE.out.1⟩⟩
                  · replace HST : Aside0 (lbts_Outputs.relax la cl l0 (os.set i false) (l0.map (lbts_Outputs.h0 ow)) i xs (j + 1) = ys.set j p) := ⟨by
                      rw [HST.out, show mx (cl x.f2) q = (cl x.f2) from by unfold mx; omega]
                      rw [show mn p (la x (cl x.f2)) = p from by unfold mn; omega]; exact if_pos rfl⟩
                    have hm2' : ¬ la x (cl x.f2) < p := by omega
                    refine Till.begin 18 (fun w' => w'.cell? ⟨Bx, 0, none⟩ = some (.slice (some ⟨gx, 0, none⟩) l0.length l0.length) ∧ w'.cell? ⟨wr.heap.size, 0, none⟩ = some (.bool x.f0) ∧ w'.cell? ⟨wr.heap.size, 1, none⟩ = some (.bool x.f1) ∧ w'.cell? ⟨wr.heap.size, 2, none⟩ = some (.int .i64 x.f2) ∧ w'.cell? ⟨wr.heap.size, 3, none⟩ = some (.int .i64 x.f3) ∧ w'.cell? ⟨wr.heap.size, 4, none⟩ = some (.int .i64 x.f4) ∧ w'.cell? ⟨wr.heap.size, 5, none⟩ = some (.int .i64 x.f5) ∧ w'.cell? ⟨wr.heap.size, 6, none⟩ = some (.int .i64 x.f6) ∧ w'.cell? ⟨gx, j, none⟩ = some (.int .i64 p) ∧ w'.cell? ⟨gx, i, none⟩ = some (.int .i64 q)) (by kernel_rfl) ?_
                    have hHeld : (fun w' => w'.cell? ⟨Bx, 0, none⟩ = some (.slice (some ⟨gx, 0, none⟩) l0.length l0.length) ∧ w'.cell? ⟨wr.heap.size, 0, none⟩ = some (.bool x.f0) ∧ w'.cell? ⟨wr.heap.size, 1, none⟩ = some (.bool x.f1) ∧ w'.cell? ⟨wr.heap.size, 2, none⟩ = some (.int .i64 x.f2) ∧ w'.cell? ⟨wr.heap.size, 3, none⟩ = some (.int .i64 x.f3) ∧ w'.cell? ⟨wr.heap.size, 4, none⟩ = some (.int .i64 x.f4) ∧ w'.cell? ⟨wr.heap.size, 5, none⟩ = some (.int .i64 x.f5) ∧ w'.cell? ⟨wr.heap.size, 6, none⟩ = some (.int .i64 x.f6) ∧ w'.cell? ⟨gx, j, none⟩ = some (.int .i64 p) ∧ w'.cell? ⟨gx, i, none⟩ = some (.int .i64 q)) W0.drew := ⟨g10, b00, b10, b20, b30, b40, b50, b60, xj0, xi0⟩
                    refine Till.take 0 (v := ?_) rfl (by kernel_rfl) (by kernel_rfl) (by kernel_rfl) (by kernel_rfl) (fun _ _ _ h => h) (Or.inl ⟨by rfl, ?_⟩) hHeld ?_
                    rotate_left; · (intro w hSw; (try dsimp only at hSw); go_simp; try with_reducible rfl)
                    simp only [Act.put, List.setIfInBounds_toArray, List.set_cons_zero, List.set_cons_succ]
                    refine Till.take 1 (v := ?_) rfl (by kernel_rfl) (by kernel_rfl) (by kernel_rfl) (by kernel_rfl) (fun _ _ _ h => h) (Or.inl ⟨by rfl, ?_⟩) hHeld ?_
                    rotate_left; · (intro w hSw; (try dsimp only at hSw); go_simp; try with_reducible rfl)
                    simp only [Act.put, List.setIfInBounds_toArray, List.set_cons_zero, List.set_cons_succ]
                    refine Till.take 2 (v := ?_) rfl (by kernel_rfl) (by kernel_rfl) (by kernel_rfl) (by kernel_rfl) (fun _ _ _ h => h) (Or.inl ⟨by rfl, ?_⟩) hHeld ?_
                    rotate_left; · (intro w hSw; (try dsimp only at hSw); go_simp; try with_reducible rfl)
                    simp only [Act.put, List.setIfInBounds_toArray, List.set_cons_zero, List.set_cons_succ]
                    refine Till.take 3 (v := ?_) rfl (by kernel_rfl) (by kernel_rfl) (by kernel_rfl) (by kernel_rfl) (fun _ _ _ h => h) (Or.inl ⟨by rfl, ?_⟩) hHeld ?_
                    rotate_left; · (intro w hSw; (try dsimp only at hSw); go_simp; try with_reducible rfl)
                    simp only [Act.put, List.setIfInBounds_toArray, List.set_cons_zero, List.set_cons_succ]
                    refine Till.take 4 (v := ?_) rfl (by kernel_rfl) (by kernel_rfl) (by kernel_rfl) (by kernel_rfl) (fun _ _ _ h => h) (Or.inl ⟨by rfl, ?_⟩) hHeld ?_
                    rotate_left; · (intro w hSw; (try dsimp only at hSw); go_simp; try with_reducible rfl)
                    simp only [Act.put, List.setIfInBounds_toArray, List.set_cons_zero, List.set_cons_succ]
                    refine Till.take 5 (v := ?_) rfl (by kernel_rfl) (by kernel_rfl) (by kernel_rfl) (by kernel_rfl) (fun _ _ _ h => h) (Or.inl ⟨by rfl, ?_⟩) hHeld ?_
                    rotate_left; · (intro w hSw; (try dsimp only at hSw); go_simp; try with_reducible rfl)
                    simp only [Act.put, List.setIfInBounds_toArray, List.set_cons_zero, List.set_cons_succ]
                    refine Till.take 6 (v := ?_) rfl (by kernel_rfl) (by kernel_rfl) (by kernel_rfl) (by kernel_rfl) (fun _ _ _ h => h) (Or.inl ⟨by rfl, ?_⟩) hHeld ?_
                    rotate_left; · (intro w hSw; (try dsimp only at hSw); go_simp; try with_reducible rfl)
                    simp only [Act.put, List.setIfInBounds_toArray, List.set_cons_zero, List.set_cons_succ]
                    refine Till.take 7 (v := ?_) rfl (by kernel_rfl) (by kernel_rfl) (by kernel_rfl) (by kernel_rfl) (fun _ _ _ h => h) (Or.inl ⟨by rfl, ?_⟩) hHeld ?_
                    rotate_left; · (intro w hSw; (try dsimp only at hSw); go_simp; try with_reducible rfl)
                    simp only [Act.put, List.setIfInBounds_toArray, List.set_cons_zero, List.set_cons_succ]
                    refine Till.take 8 (v := ?_) rfl (by kernel_rfl) (by kernel_rfl) (by kernel_rfl) (by kernel_rfl) (fun _ _ _ h => h) (Or.inl ⟨by rfl, ?_⟩) hHeld ?_
                    rotate_left; · (intro w hSw; (try dsimp only at hSw); go_simp; try with_reducible rfl)
                    simp only [Act.put, List.setIfInBounds_toArray, List.set_cons_zero, List.set_cons_succ]
                    refine Till.take 10 (v := ?_) rfl (by kernel_rfl) (by kernel_rfl) (by kernel_rfl) (by kernel_rfl) (fun _ _ _ h => h) (Or.inl ⟨by rfl, ?_⟩) hHeld ?_
                    rotate_left; · (intro w hSw; (try dsimp only at hSw); go_simp; try with_reducible rfl)
                    simp only [Act.put, List.setIfInBounds_toArray, List.set_cons_zero, List.set_cons_succ]
                    refine Till.take 11 (v := ?_) rfl (by kernel_rfl) (by kernel_rfl) (by kernel_rfl) (by kernel_rfl) (fun _ _ _ h => h) (Or.inl ⟨by rfl, ?_⟩) hHeld ?_
                    rotate_left; · (intro w hSw; (try dsimp only at hSw); go_simp; try with_reducible rfl)
                    simp only [Act.put, List.setIfInBounds_toArray, List.set_cons_zero, List.set_cons_succ]
                    refine Till.take 12 (v := ?_) rfl (by kernel_rfl) (by kernel_rfl) (by kernel_rfl) (by kernel_rfl) (fun _ _ _ h => h) (Or.inl ⟨by rfl, ?_⟩) hHeld ?_
                    rotate_left; · (intro w hSw; (try dsimp only at hSw); go_simp; try with_reducible rfl)
                    simp only [Act.put, List.setIfInBounds_toArray, List.set_cons_zero, List.set_cons_succ]
                    refine Till.take 13 (v := ?_) rfl (by kernel_rfl) (by kernel_rfl) (by kernel_rfl) (by kernel_rfl) (fun _ _ _ h => h) (Or.inl ⟨by rfl, ?_⟩) hHeld ?_
                    rotate_left; · (intro w hSw; (try dsimp only at hSw); go_simp; try with_reducible rfl)
                    simp only [Act.put, List.setIfInBounds_toArray, List.set_cons_zero, List.set_cons_succ]
                    refine Till.one 9 (by kernel_rfl) rfl (fun K hK => ?_)
                    go_simp
                    go_at_call 51
                    refine (CL.out x.f2 _).mono ?_
                    rintro e w3 ⟨rfl, hb3⟩
                    have hb3' : Below W0.heap.size W0 w3 := below_step (by repeat (first | exact Below.refl _ _ | apply pw_below_drewN | apply below_drew1)) hb3
                    have ST3 := Aside0.mk (ST0.out.below hb3')
                    have BK3 := Aside0.mk (blk_below BK0.out hb3')
                    have BW3 := Aside0.mk (below_step BW0.out hb3')
                    have g13 := ST3.out.cbx
                    have b03 : World.cell? w3 ⟨wr.heap.size, 0, none⟩ = some (.bool x.f0) := (blk_cell BK3.out 0).trans rfl
                    have b13 : World.cell? w3 ⟨wr.heap.size, 1, none⟩ = some (.bool x.f1) := (blk_cell BK3.out 1).trans rfl
                    have b23 : World.cell? w3 ⟨wr.heap.size, 2, none⟩ = some (.int .i64 x.f2) := (blk_cell BK3.out 2).trans rfl
                    have b33 : World.cell? w3 ⟨wr.heap.size, 3, none⟩ = some (.int .i64 x.f3) := (blk_cell BK3.out 3).trans rfl
                    have b43 : World.cell? w3 ⟨wr.heap.size, 4, none⟩ = some (.int .i64 x.f4) := (blk_cell BK3.out 4).trans rfl
                    have b53 : World.cell? w3 ⟨wr.heap.size, 5, none⟩ = some (.int .i64 x.f5) := (blk_cell BK3.out 5).trans rfl
                    have b63 : World.cell? w3 ⟨wr.heap.size, 6, none⟩ = some (.int .i64 x.f6) := (blk_cell BK3.out 6).trans rfl
                    have xj3 := ST3.out.cx hlt
                    have xi3 := ST3.out.cx hin
                    have fj3 := blk_frozen ST3.out.x j
                    rw [HP.out] at xj3
                    rw [HQ.out] at xi3
                    refine hK.out _ _ ⟨g13, b03, b13, b23, b33, b43, b53, b63, xj3, xi3⟩ ?_
                    clear hHeld hK K hb3 hb3'
                    have hHeld : (fun w' => w'.cell? ⟨Bx, 0, none⟩ = some (.slice (some ⟨gx, 0, none⟩) l0.length l0.length) ∧ w'.cell? ⟨wr.heap.size, 0, none⟩ = some (.bool x.f0) ∧ w'.cell? ⟨wr.heap.size, 1, none⟩ = some (.bool x.f1) ∧ w'.cell? ⟨wr.heap.size, 2, none⟩ = some (.int .i64 x.f2) ∧ w'.cell? ⟨wr.heap.size, 3, none⟩ = some (.int .i64 x.f3) ∧ w'.cell? ⟨wr.heap.size, 4, none⟩ = some (.int .i64 x.f4) ∧ w'.cell? ⟨wr.heap.size, 5, none⟩ = some (.int .i64 x.f5) ∧ w'.cell? ⟨wr.heap.size, 6, none⟩ = some (.int .i64 x.f6) ∧ w'.cell? ⟨gx, j, none⟩ = some (.int .i64 p) ∧ w'.cell? ⟨gx, i, none⟩ = some (.int .i64 q)) w3 := ⟨g13, b03, b13, b23, b33, b43, b53, b63, xj3, xi3⟩
                    try simp only [Act.put, List.setIfInBounds_toArray, List.set_cons_zero, List.set_cons_succ]
                    refine Till.take 14 (v := ?_) rfl (by kernel_rfl) (by kernel_rfl) (by kernel_rfl) (by kernel_rfl) (fun _ _ _ h => h) (Or.inl ⟨by rfl, ?_⟩) hHeld ?_
                    rotate_left; · (intro w hSw; (try dsimp only at hSw); go_simp; try with_reducible rfl)
                    simp only [Act.put, List.setIfInBounds_toArray, List.set_cons_zero, List.set_cons_succ]
                    refine Till.one 15 (by kernel_rfl) rfl (fun K hK => ?_)
                    go_simp
                    go_at_call 49
                    refine (LA.out x (cl x.f2) _).mono ?_
                    rintro e w4 ⟨rfl, hb4⟩
                    have hb4' : Below w3.heap.size w3 w4 := below_step (by repeat (first | exact Below.refl _ _ | apply pw_below_drewN | apply below_drew1)) hb4
                    have ST4 := Aside0.mk (ST3.out.below hb4')
                    have BK4 := Aside0.mk (blk_below BK3.out hb4')
                    have BW4 := Aside0.mk (below_step BW3.out hb4')
                    have g14 := ST4.out.cbx
                    have b04 : World.cell? w4 ⟨wr.heap.size, 0, none⟩ = some (.bool x.f0) := (blk_cell BK4.out 0).trans rfl
                    have b14 : World.cell? w4 ⟨wr.heap.size, 1, none⟩ = some (.bool x.f1) := (blk_cell BK4.out 1).trans rfl
                    have b24 : World.cell? w4 ⟨wr.heap.size, 2, none⟩ = some (.int .i64 x.f2) := (blk_cell BK4.out 2).trans rfl
                    have b34 : World.cell? w4 ⟨wr.heap.size, 3, none⟩ = some (.int .i64 x.f3) := (blk_cell BK4.out 3).trans rfl
                    have b44 : World.cell? w4 ⟨wr.heap.size, 4, none⟩ = some (.int .i64 x.f4) := (blk_cell BK4.out 4).trans rfl
                    have b54 : World.cell? w4 ⟨wr.heap.size, 5, none⟩ = some (.int .i64 x.f5) := (blk_cell BK4.out 5).trans rfl
                    have b64 : World.cell? w4 ⟨wr.heap.size, 6, none⟩ = some (.int .i64 x.f6) := (blk_cell BK4.out 6).trans rfl
                    have xj4 := ST4.out.cx hlt
                    have xi4 := ST4.out.cx hin
                    have fj4 := blk_frozen ST4.out.x j
                    rw [HP.out] at xj4
                    rw [HQ.out] at xi4
                    refine hK.out _ _ ⟨g14, b04, b14, b24, b34, b44, b54, b64, xj4, xi4⟩ ?_
                    clear hHeld hK K hb4 hb4'
                    have hHeld : (fun w' => w'.cell? ⟨Bx, 0, none⟩ = some (.slice (some ⟨gx, 0, none⟩) l0.length l0.length) ∧ w'.cell? ⟨wr.heap.size, 0, none⟩ = some (.bool x.f0) ∧ w'.cell? ⟨wr.heap.size, 1, none⟩ = some (.bool x.f1) ∧ w'.cell? ⟨wr.heap.size, 2, none⟩ = some (.int .i64 x.f2) ∧ w'.cell? ⟨wr.heap.size, 3, none⟩ = some (.int .i64 x.f3) ∧ w'.cell? ⟨wr.heap.size, 4, none⟩ = some (.int .i64 x.f4) ∧ w'.cell? ⟨wr.heap.size, 5, none⟩ = some (.int .i64 x.f5) ∧ w'.cell? ⟨wr.heap.size, 6, none⟩ = some (.int .i64 x.f6) ∧ w'.cell? ⟨gx, j, none⟩ = some (.int .i64 p) ∧ w'.cell? ⟨gx, i, none⟩ = some (.int .i64 q)) w4 := ⟨g14, b04, b14, b24, b34, b44, b54, b64, xj4, xi4⟩
                    try simp only [Act.put, List.setIfInBounds_toArray, List.set_cons_zero, List.set_cons_succ]
                    refine Till.take 16 (v := ?_) rfl (by kernel_rfl) (by kernel_rfl) (by kernel_rfl) (by kernel_rfl) (fun _ _ _ h => h) (Or.inl ⟨by rfl, ?_⟩) hHeld ?_
                    rotate_left; · (intro w hSw; (try dsimp only at hSw); go_simp; try with_reducible rfl)
                    simp only [Act.put, List.setIfInBounds_toArray, List.set_cons_zero, List.set_cons_succ]
                    refine Till.take 17 (v := ?_) rfl (by kernel_rfl) (by kernel_rfl) (by kernel_rfl) (by kernel_rfl) (fun _ _ _ h => h) (Or.inl ⟨by rfl, ?_⟩) hHeld ?_
                    rotate_left; · (intro w hSw; (try dsimp only at hSw); go_simp; try with_reducible rfl)
                    simp only [Act.put, List.setIfInBounds_toArray, List.set_cons_zero, List.set_cons_succ]
                    refine Till.last 18 (by kernel_rfl) rfl (by kernel_rfl) (fun K hK => ?_)
                    go_simp
                    refine hK.out _ _ ?_
                    clear hK K
                    try simp only [Act.put, List.setIfInBounds_toArray, List.set_cons_zero, List.set_cons_succ]
                    go_wp2
                    go_roundg (l0.length - (j + 1))
                    case measure => have := HG.out; omega
                    case rel => exact ⟨j + 1, by omega, by omega, by go_num, ⟨by rw [HST.out]; exact ST4.out.setx j _⟩, ⟨below_set BW4.out LE.out.1⟩⟩
          · have hltz : ¬ (j : Int) < (l0.length : Int) := by omega
            obtain rfl : j = l0.length := by omega
            go_wp2
            go_step3
            repeat rw [lbts_Outputs.then_goto]
            refine lbts_Outputs.jump_goto ?_
            refine ⟨k, Nat.lt_succ_self k, Bl, Bx, Bo, gx, go, gh, _, os.set i false, _, _, _, _, _, _, _, ?_, rfl, SJ, BJ, LE, RUN⟩
            rfl
end
end
/-! What Outputs comes to, in plain words. -/
def lbts_Outputs.ck (t : Int) : Int := if t < 0 then 0 else if t > 1099511627776 then 1125899906842624 else t
def lbts_Outputs.add (a b : Int) : Int := lbts_Outputs.ck (lbts_Outputs.ck a + lbts_Outputs.ck b)
def lbts_Outputs.cl (t : Int) : Int := lbts_Outputs.add t 0
def lbts_Outputs.la (m : S108) (t : Int) : Int := lbts_Outputs.add t (mx 1 (mn m.f3 1048576))
def lbts_Outputs.ow (m : S108) : Int × Bool :=
  if m.f4 = 1 then (lbts_Outputs.cl m.f5, false)
  else if m.f4 = 2 ∨ m.f4 = 3 then (if m.f1 then (mx (lbts_Outputs.cl m.f2) (mn (lbts_Outputs.cl m.f5) (lbts_Outputs.cl m.f6)), true) else (lbts_Outputs.cl m.f5, false))
  else (lbts_Outputs.cl m.f2, false)
theorem lbts_Outputs.ck_range (t : Int) : 0 ≤ lbts_Outputs.ck t ∧ lbts_Outputs.ck t ≤ 1125899906842624 := by
  unfold lbts_Outputs.ck
  split
  · omega
  · split <;> omega
theorem lbts_Outputs.clamp_f (t : Int) : vtime_clamp.f t = some (lbts_Outputs.ck t) := by
  unfold vtime_clamp.f lbts_Outputs.ck
  split
  · rfl
  · split <;> rfl
theorem lbts_Outputs.add_f (a b : Int) : vtime_Add.f a b = some (lbts_Outputs.add a b) := by
  have h1 := lbts_Outputs.ck_range a
  have h2 := lbts_Outputs.ck_range b
  have hw : wrap64 (lbts_Outputs.ck a + lbts_Outputs.ck b) = lbts_Outputs.ck a + lbts_Outputs.ck b := by
    unfold wrap64
    omega
  unfold vtime_Add.f lbts_Outputs.add
  simp only [lbts_Outputs.clamp_f, Option.bind_some, hw]
theorem lbts_Outputs.cl_f (t : Int) : lbts_clamp.f t = some (lbts_Outputs.cl t) := by
  unfold lbts_clamp.f lbts_Outputs.cl
  simp only [lbts_Outputs.add_f, Option.bind_some]
theorem lbts_Outputs.la_f (m : S108) (t : Int) : lbts_Member_later.f m.f0 m.f1 m.f2 m.f3 m.f4 m.f5 m.f6 t = some (lbts_Outputs.la m t) := by
  unfold lbts_Member_later.f lbts_Outputs.la
  simp only [lbts_Outputs.add_f, Option.bind_some]
theorem lbts_Outputs.ow_f (m : S108) : lbts_Member_own.f 1 m.f0 m.f1 m.f2 m.f3 m.f4 m.f5 m.f6 = some ((lbts_Outputs.ow m).1, (lbts_Outputs.ow m).2) := by
  unfold lbts_Member_own.f lbts_Outputs.ow
  simp only [lbts_Member_own.j0, lbts_Outputs.cl_f, Option.bind_some]
  by_cases h1 : m.f4 = 1
  · simp [h1]
  · by_cases h2 : m.f4 = 2
    · simp [h2]
      cases m.f1 <;> simp
    · by_cases h3 : m.f4 = 3
      · simp [h3]
        cases m.f1 <;> simp
      · simp [h1, h2, h3]
def lbts_Outputs.f (l : List S108) : Option (List Int) :=
  if l.length ≤ 1000000 then lbts_Outputs.run lbts_Outputs.la lbts_Outputs.cl l (l.map (lbts_Outputs.h0 lbts_Outputs.ow)) (l.length + 1) (l.map (·.f0)) (l.map (lbts_Outputs.x0 lbts_Outputs.ow lbts_Outputs.la)) else none
theorem lbts_Outputs.calls (A0 : Option Addr) (c0 : Nat) (l0 : List S108) (r : List Int) (w : World) (hr0 : Kd.C k108 w A0 l0.length l0) (hc0 : l0.length ≤ c0) (h : lbts_Outputs.f l0 = some r) :
    Calls Tryz.prog 27 #[.slice A0 l0.length c0] w fun e w' => ∃ v0_ : Value, e = .returned (v0_) ∧ Kd.R (Kd.int .i64) 3 w' w.heap.size (fun _ => True) v0_ r ∧ Below w.heap.size w w' := by
  unfold lbts_Outputs.f at h
  by_cases hn : l0.length ≤ 1000000
  · rw [if_pos hn] at h
    refine lbts_Outputs.walk (ow := lbts_Outputs.ow) (la := lbts_Outputs.la) (cl := lbts_Outputs.cl) ?_ ?_ ?_ A0 c0 l0 (l0.length + 1) r w hr0 hc0 hn h
    · exact fun m W => lbts_Member_own.calls 1 m.f0 m.f1 m.f2 m.f3 m.f4 m.f5 m.f6 _ _ W (lbts_Outputs.ow_f m)
    · exact fun m t W => lbts_Member_later.calls m.f0 m.f1 m.f2 m.f3 m.f4 m.f5 m.f6 t _ W (lbts_Outputs.la_f m t)
    · exact fun t W => (lbts_clamp.calls t _ W (lbts_Outputs.cl_f t)).mono fun e w' ⟨he, hd⟩ => ⟨he, hd.below⟩
  · rw [if_neg hn] at h
    cases h

end Go.Proofs.YtaaaocckfnlgdaaGreatDoor.PBase
