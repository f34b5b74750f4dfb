-- Written by gp.py (this project's driver over the kit's print) out of the translation and wip/given; Lean checks it.
import Derived.Test.YtdlagficilbbbaaPConfigKindsx0
import Derived.Test.YtdlagficilbbbaaPConfigKindsx3
namespace Go.Proofs.Ytdlagficilbbbaa.PConfigKinds
open Go.RowKit Go.Proofs.YtdlagficilbbbaaR Go.Proofs.YtdlagficilbbbaaW.PrintWords Go.Proofs.YtdlagficilbbbaaW.PrintLast Go.Proofs.YtdlagficilbbbaaW.PrintMore
attribute [local go_sem] max2_int min2_int max_two min_two max_three min_three max_four min_four   -- for this text's walks alone
set_option linter.unusedVariables false
set_option linter.unusedSimpArgs false

/-! ### config_Check: function 10 (by hand) -/
/-! What config.Check comes to, in plain words. -/
def config_Check.firstE : List Int → Int
  | [] => 0
  | e :: l => if e = 0 then config_Check.firstE l else e
def config_Check.un (is : Bool) (e : Int) : Int := if is then 0 else e
def config_Check.wi (n a b : Int) : Bool := decide (a ≤ n ∧ n ≤ b)
def config_Check.rising (most : Int) : Int → List Int → Bool
  | _, [] => true
  | last, c :: l => if c ≤ last ∨ c ≥ most then false else config_Check.rising most c l
def config_Check.has (l : List Int) (v : Int) : Bool := decide (v ∈ l)
def config_Check.sendE (pubs : List Int) (look : Int) (o : S55) : Int := config_Check.firstE [config_Check.un (config_Check.has pubs o.f0) 81, config_Check.un (decide (look ≤ o.f1)) 80]
def config_Check.sendsE (pubs : List Int) (look : Int) : List S55 → Int
  | [] => 0
  | o :: l => if config_Check.sendE pubs look o = 0 then config_Check.sendsE pubs look l else config_Check.sendE pubs look o
def config_Check.rulesE (pubs : List Int) (look most : Int) : List S44 → Int
  | [] => 0
  | r :: l => if most ≤ r.f1 then 81 else if config_Check.sendsE pubs look r.f3 = 0 then config_Check.rulesE pubs look most l else config_Check.sendsE pubs look r.f3
def config_Check.odd (pubs : List Int) (o : S55) : Bool := !(config_Check.has pubs o.f0) || !(config_Check.wi o.f1 0 1099511627776) || !(config_Check.wi o.f2 0 999)
def config_Check.tableE (l : List S44) : Int := if 32 < l.length then 70 else table_Check.scan [] l
def config_Check.fedE (x : S42) (most : Int) : Int :=
  config_Check.firstE [config_Check.un (config_Check.wi x.f0 0 1) 1, config_Check.un (config_Check.wi x.f1 1 1048576) 80, config_Check.un (config_Check.wi x.f2 0 7) 70, config_Check.tableE x.f3,
    config_Check.un (config_Check.rising most (-1) x.f4 && config_Check.rising most (-1) x.f5) 81, config_Check.rulesE x.f4 x.f1 most x.f3, config_Check.un (decide (x.f6.length ≤ 4) && !(x.f6.any (config_Check.odd x.f4))) 82]
def config_Check.fedsE (most : Int) : Int → List S42 → Int × Int
  | _, [] => (-1, 0)
  | i, x :: l => if config_Check.fedE x most = 0 then config_Check.fedsE most (i + 1) l else (i, config_Check.fedE x most)
def config_Check.all (l0 : List Int) (l1 : List S42) (a0 : Int) : Int × Int :=
  if config_Check.firstE [if Go.Proofs.YtdlagficilbbbaaU.treeB l0 = true then 0 else 50, config_Check.un (config_Check.wi a0 0 1099511627776 && config_Check.wi (l1.length : Int) 1 8) 1] = 0 then config_Check.fedsE (l0.length : Int) 0 l1
  else (-1, config_Check.firstE [if Go.Proofs.YtdlagficilbbbaaU.treeB l0 = true then 0 else 50, config_Check.un (config_Check.wi a0 0 1099511627776 && config_Check.wi (l1.length : Int) 1 8) 1])
def config_Check.f (l0 : List Int) (l1 : List S42) (a0 : Int) : Option (Int × Int) := if (l1.all (fun x => x.f3.all table_Check.wfr)) = true then some (config_Check.all l0 l1 a0) else none
section
open Go.Proofs.YtdlagficilbbbaaU Go.Proofs.YtdlagficilbbbaaI Go.Proofs.YtdlagficilbbbaaH
/-- v is a try: from w on it answers e. -/
def config_Check.Try (w : World) (v : Value) (e : Int) : Prop := ∃ (g : Nat) (lb : Array Value), v = .func (.func g) #[] lb ∧ (∀ args w, (callFunc g args).run Try.prog w = .ok (.enter g args) w) ∧
  ∀ W, Below w.heap.size w W → Calls Try.prog g lb W fun e' w' => e' = .returned (.int .i64 e) ∧ Below W.heap.size W w'
theorem config_Check.Try.below {w W : World} {v : Value} {e : Int} (h : config_Check.Try w v e) (hb : Below w.heap.size w W) : config_Check.Try W v e := by
  obtain ⟨g, lb, h1, h2, h3⟩ := h
  exact ⟨g, lb, h1, h2, fun W' hW' => h3 W' (below_step hb hW')⟩
theorem config_Check.firstE_drop {es : List Int} {kk : Nat} {e : Int} (he : es[kk]? = some e) : config_Check.firstE (es.drop kk) = if e = 0 then config_Check.firstE (es.drop (kk + 1)) else e := by
  obtain ⟨hk, rfl⟩ := List.getElem?_eq_some_iff.1 he
  rw [List.drop_eq_getElem_cons hk, config_Check.firstE]
set_option maxRecDepth 100000 in
set_option maxHeartbeats 1000000 in
theorem config_Check.first (vs : List Value) (es : List Int) (ad : Addr) (n c : Nat) (w : World) (hv : vs.length = n) (he : es.length = n) (hn : n ≤ 1000) (hc : ∀ i v, vs[i]? = some v → w.cell? (ad.add i) = some v)
    (ht : ∀ (i : Nat) v e, vs[i]? = some v → es[i]? = some e → config_Check.Try w v e) : Calls Try.prog 21 #[.slice (some ad) n c] w fun e w' => e = .returned (.int .i64 (config_Check.firstE es)) ∧ Below w.heap.size w w' := by
  have HV := Aside0.mk hv
  have HE := Aside0.mk he
  have HC := Aside0.mk hc
  have HT := Aside0.mk ht
  clear hv he hc ht
  go_enter Try.func21, Try.ntmps21
  go_wp2
  go_loopg [8] n (fun gg s8 wr => ∃ kk : Nat, kk ≤ n ∧ n - kk ≤ gg ∧ s8 = .int .i64 kk ∧ Aside0 (Below w.heap.size w wr) ∧ Aside0 (config_Check.firstE es = config_Check.firstE (es.drop kk)))
  case atStart => exact ⟨0, Nat.zero_le _, by omega, rfl, ⟨Below.refl _ w⟩, ⟨rfl⟩⟩
  case round =>
    obtain ⟨kk, hkk, hg, rfl, BW, EQ⟩ := hrel
    by_cases hlt : kk < n
    · have hltz : (kk : Int) < (n : Int) := by omega
      obtain ⟨v, hv⟩ : ∃ v, vs[kk]? = some v := ⟨_, List.getElem?_eq_getElem (by rw [HV.out]; exact hlt)⟩
      obtain ⟨e0, he⟩ : ∃ e, es[kk]? = some e := ⟨_, List.getElem?_eq_getElem (by rw [HE.out]; exact hlt)⟩
      have c0 : wr.cell? (ad.add kk) = some v := pw_cell_below BW.out (HC.out kk v hv)
      obtain ⟨g, lb, rfl, eg, hcall⟩ := HT.out kk v e0 hv he
      have hcall := hcall wr BW.out
      have ED := Aside0.mk (EQ.out.trans (config_Check.firstE_drop he))
      have HG := Aside0.mk hg
      clear hv he hg
      by_cases hz : e0 = 0
      · have EZ : Aside0 (config_Check.firstE es = config_Check.firstE (es.drop (kk + 1))) := ⟨by rw [ED.out, if_pos hz]⟩
        subst hz
        go_wp2_with (go_at_fn g; refine hcall.mono ?_; rintro e w' ⟨rfl, hb'⟩; have HB' := Aside0.mk (below_step BW.out hb'); clear hb')
        go_roundg (n - (kk + 1))
        case measure => have := HG.out; omega
        case rel => exact ⟨kk + 1, by omega, by omega, by go_num, HB', EZ⟩
      · have EZ : Aside0 (config_Check.firstE es = e0) := ⟨by rw [ED.out, if_neg hz]⟩
        have b1 : ((e0 : Int) == 0) = false := by simp [hz]
        have b2 : ((e0 : Int) != 0) = true := by simp [hz]
        go_wp2_with (go_at_fn g; refine hcall.mono ?_; rintro e w' ⟨rfl, hb'⟩; have HB' := Aside0.mk (below_step BW.out hb'); clear hb')
        go_ret
        exact ⟨by rw [EZ.out]; rfl, HB'.out⟩
    · have hltz : ¬ (kk : Int) < (n : Int) := by omega
      have EZ : Aside0 (config_Check.firstE es = 0) := ⟨by rw [EQ.out, List.drop_eq_nil_of_le (by rw [HE.out]; omega)]; rfl⟩
      go_wp2
      go_ret
      exact ⟨by rw [EZ.out]; rfl, BW.out⟩
set_option maxRecDepth 100000 in
set_option maxHeartbeats 1000000 in
theorem config_Check.unless1 (is : Bool) (e : Int) (b1 b2 : Nat) (W : World) (h1 : W.heap[b1]? = some (.cells #[.bool is] 4 (0, 0))) (h2 : W.heap[b2]? = some (.cells #[.int .i64 e] 27 (0, 0))) :
    Calls Try.prog 35 #[.pointer (some ⟨b1, 0, none⟩), .pointer (some ⟨b2, 0, none⟩)] W fun e' w' => e' = .returned (.int .i64 (config_Check.un is e)) ∧ Below W.heap.size W w' := by
  have q0 : W.cell? ⟨b1, 0, none⟩ = some (.bool is) := (blk_cell h1 0).trans rfl
  have q1 : W.cell? ⟨b2, 0, none⟩ = some (.int .i64 e) := (blk_cell h2 0).trans rfl
  clear h1 h2
  cases is
  all_goals
    go_enter Try.func35, Try.ntmps35
    go_wp2
    go_ret
    exact ⟨rfl, Below.refl _ _⟩
set_option maxRecDepth 100000 in
set_option maxHeartbeats 1000000 in
theorem config_Check.unless (is : Bool) (e : Int) (w : World) :
    Calls Try.prog 24 #[.bool is, .int .i64 e] w fun r w' => ∃ v, r = .returned v ∧ config_Check.Try w' v (config_Check.un is e) ∧ Below w.heap.size w w' := by
  have hmf : ∀ (fn : Fn) (first cap : Array Value) (w : World), (Instr.makeFunc fn first cap).run Try.prog w = .ok (.func fn first cap) w := fun _ _ _ _ => rfl
  have H1 := Aside0.mk (blk_alloc (blk_new w (.cells #[.bool is] 4 (0, 0))) (.cells #[.int .i64 e] 27 (0, 0)))
  have H2 : Aside0 (((w.alloc (.cells #[.bool is] 4 (0, 0))).alloc (.cells #[.int .i64 e] 27 (0, 0))).heap[w.heap.size + 1]? = some (.cells #[.int .i64 e] 27 (0, 0))) := ⟨by simpa using blk_new (w.alloc (.cells #[.bool is] 4 (0, 0))) (.cells #[.int .i64 e] 27 (0, 0))⟩
  go_enter Try.func24, Try.ntmps24
  go_wp2
  go_ret
  exact ⟨_, rfl, ⟨35, _, rfl, enters_of Try.func35 (by kernel_rfl) rfl, fun W hW => config_Check.unless1 is e _ _ W (blk_below H1.out hW) (blk_below H2.out hW)⟩, ((Below.refl _ w).alloc (Nat.le_refl _) _).alloc (by simp) _⟩
theorem config_Check.within (n a b : Int) (w : World) : Calls Try.prog 25 #[.int .i64 n, .int .i64 a, .int .i64 b] w fun e w' => e = .returned (.bool (config_Check.wi n a b)) ∧ Below w.heap.size w w' := by
  refine (config_within.calls n a b (config_Check.wi n a b) w ?_).mono fun e w' ⟨he, hd⟩ => ⟨he, hd.below⟩
  unfold config_within.f config_Check.wi
  by_cases h : n ≥ a
  · rw [if_pos h]
    congr 1
    simp
    omega
  · rw [if_neg h]
    congr 1
    simp
    omega
theorem config_Check.index_loop (l : List Int) (v : Int) (hl : l.length ≤ 9223372036854775807) (d : Nat) : ∀ (k p : Nat), p ≤ l.length → l.length - p = d → d < k → (∀ j, j < p → l.getD j 0 ≠ v) →
    ∃ r, slices_Index_int_int.l0 k l v (l.length : Int) (p : Int) = some r ∧ decide (r ≥ 0) = decide (v ∈ l) := by
  induction d with
  | zero =>
    intro k p h0 hd hk hno
    obtain ⟨k, rfl⟩ : ∃ m, k = m + 1 := ⟨k - 1, by omega⟩
    refine ⟨-1, by rw [slices_Index_int_int.l0, if_neg (by omega)], ?_⟩
    rw [decide_eq_decide]
    refine ⟨fun h => by omega, fun h => ?_⟩
    obtain ⟨j, hj, e⟩ := List.mem_iff_getElem.mp h
    exact absurd (by rw [List.getD_eq_getElem?_getD, List.getElem?_eq_getElem hj]; exact e) (hno j (by omega))
  | succ d ih =>
    intro k p h0 hd hk hno
    obtain ⟨k, rfl⟩ : ∃ m, k = m + 1 := ⟨k - 1, by omega⟩
    have hp : p < l.length := by omega
    by_cases he : v = l.getD p 0
    · refine ⟨(p : Int), by rw [slices_Index_int_int.l0, if_pos (by omega), if_pos (by omega), if_pos (by omega), if_pos (show v = rd l (p : Int) from he)], ?_⟩
      rw [decide_eq_decide]
      refine ⟨fun _ => ?_, fun _ => by omega⟩
      rw [he, List.getD_eq_getElem?_getD, List.getElem?_eq_getElem hp]
      exact List.getElem_mem hp
    · obtain ⟨r, h1, h2⟩ := ih k (p + 1) (by omega) (by omega) (by omega) (fun j hj => by
        by_cases hjp : j = p
        · rw [hjp]; exact fun h => he h.symm
        · exact hno j (by omega))
      refine ⟨r, ?_, h2⟩
      rw [slices_Index_int_int.l0, if_pos (by omega), if_pos (by omega), if_pos (by omega), if_neg (show ¬ v = rd l (p : Int) from he)]
      rw [show wrap64 ((p : Int) + 1) = ((p + 1 : Nat) : Int) by unfold wrap64; omega]
      exact h1
theorem config_Check.contains (A : Option Addr) (c : Nat) (l : List Int) (v : Int) (w : World) (hr : Kd.C (Kd.int .i64) w A l.length l) (hc : l.length ≤ c) :
    Calls Try.prog 38 #[.slice A l.length c, .int .i64 v] w fun e w' => e = .returned (.bool (config_Check.has l v)) ∧ Below w.heap.size w w' := by
  obtain ⟨r, h1, h2⟩ := config_Check.index_loop l v hr.2.1 l.length (l.length + 1) 0 (by omega) (by omega) (by omega) (fun j hj => by omega)
  refine (slices_Contains_int_int.calls (l.length + 1) A c l v (config_Check.has l v) w hr hc ?_).mono fun e w' ⟨he, hd⟩ => ⟨he, hd.below⟩
  unfold slices_Contains_int_int.f slices_Index_int_int.f
  rw [show ((0 : Nat) : Int) = 0 from rfl] at h1
  rw [h1]
  simp only [Option.bind_some]
  rw [h2]
  rfl
end
section
open Go.Proofs.YtdlagficilbbbaaU Go.Proofs.YtdlagficilbbbaaI Go.Proofs.YtdlagficilbbbaaH
theorem config_Check.below2 (w : World) (o1 o2 : Obj) : Below w.heap.size w ((w.alloc o1).alloc o2) := ((Below.refl _ w).alloc (Nat.le_refl _) o1).alloc (by simp) o2
theorem config_Check.rising_drop {most last : Int} {l : List Int} {kk : Nat} {c : Int} (hc : l[kk]? = some c) : config_Check.rising most last (l.drop kk) = if c ≤ last ∨ c ≥ most then false else config_Check.rising most c (l.drop (kk + 1)) := by
  obtain ⟨hk, rfl⟩ := List.getElem?_eq_some_iff.1 hc
  rw [List.drop_eq_getElem_cons hk, config_Check.rising]
set_option maxRecDepth 100000 in
set_option maxHeartbeats 4000000 in
theorem config_Check.rises (A : Option Addr) (c : Nat) (l : List Int) (most : Int) (bM : Nat) (w : World) (hr : Kd.C (Kd.int .i64) w A l.length l) (hM : w.heap[bM]? = some (.cells #[.int .i64 most] 3 (0, 0))) :
    Calls Try.prog 36 #[.slice A l.length c, .pointer (some ⟨bM, 0, none⟩)] w fun e w' => e = .returned (.bool (config_Check.rising most (-1) l)) ∧ Below w.heap.size w w' := by
  have hmax : l.length ≤ 9223372036854775807 := hr.2.1
  have HR := Aside0.mk hr
  have HM := Aside0.mk hM
  clear hr hM
  go_enter Try.func36, Try.ntmps36
  go_wp2
  go_loopg [4, 9] l.length (fun gg s4 s9 wr => ∃ (kk : Nat) (last : Int), kk ≤ l.length ∧ l.length - kk ≤ gg ∧ s9 = .int .i64 kk ∧ s4 = .int .i64 last ∧ Aside0 (Below w.heap.size w wr) ∧ Aside0 (config_Check.rising most (-1) l = config_Check.rising most last (l.drop kk)))
  case atStart => exact ⟨0, -1, Nat.zero_le _, by omega, rfl, rfl, ⟨Below.refl _ w⟩, ⟨rfl⟩⟩
  case round =>
    obtain ⟨kk, last, hkk, hg, rfl, rfl, BW, EQ⟩ := hrel
    by_cases hlt : kk < l.length
    · have hltz : (kk : Int) < (l.length : Int) := by omega
      obtain ⟨x, hx⟩ : ∃ x, l[kk]? = some x := ⟨_, List.getElem?_eq_getElem hlt⟩
      obtain ⟨ad, cs, rfl, hcl, hK, hcell⟩ := cells_at (Kd.C_below HR.out BW.out) hx
      obtain rfl := hK
      have c0 : wr.cell? (ad.add kk) = some (.int .i64 x) := by
        have h0 : wr.cell? (ad.add (kk * 1 + 0)) = some (.int .i64 x) := hcell 0 _ rfl
        simpa using h0
      have cm : wr.cell? ⟨bM, 0, none⟩ = some (.int .i64 most) := (blk_cell (blk_below HM.out BW.out) 0).trans rfl
      have ED := Aside0.mk (EQ.out.trans (config_Check.rising_drop hx))
      have HG := Aside0.mk hg
      clear hcell hcl hx hg
      by_cases h1 : x ≤ last
      · have EZ : Aside0 (config_Check.rising most (-1) l = false) := ⟨by rw [ED.out, if_pos (.inl h1)]⟩
        go_wp2
        go_ret
        exact ⟨by rw [EZ.out]; rfl, BW.out⟩
      · by_cases h2 : most ≤ x
        · have EZ : Aside0 (config_Check.rising most (-1) l = false) := ⟨by rw [ED.out, if_pos (.inr h2)]⟩
          go_wp2
          go_ret
          exact ⟨by rw [EZ.out]; rfl, BW.out⟩
        · have EZ : Aside0 (config_Check.rising most (-1) l = config_Check.rising most x (l.drop (kk + 1))) := ⟨by rw [ED.out, if_neg (fun h => h.elim h1 h2)]⟩
          go_wp2
          go_roundg (l.length - (kk + 1))
          case measure => have := HG.out; omega
          case rel => exact ⟨kk + 1, x, by omega, by omega, by go_num, rfl, BW, EZ⟩
    · have hltz : ¬ (kk : Int) < (l.length : Int) := by omega
      have EZ : Aside0 (config_Check.rising most (-1) l = true) := ⟨by rw [EQ.out, List.drop_eq_nil_of_le (by omega)]; rfl⟩
      go_wp2
      go_ret
      exact ⟨by rw [EZ.out]; rfl, BW.out⟩
set_option maxRecDepth 100000 in
set_option maxHeartbeats 4000000 in
theorem config_Check.odds (x : S42) (A4 : Option Addr) (c4 bF : Nat) (v0 v1 v2 v3 v5 v6 : Value) (l : List S55) (w : World) (hF : w.heap[bF]? = some (.cells #[v0, v1, v2, v3, .slice A4 x.f4.length c4, v5, v6] 42 (0, 0)))
    (h4 : Kd.C (Kd.int .i64) w A4 x.f4.length x.f4) (k4 : x.f4.length ≤ c4) : Pred Try.prog 39 #[.pointer (some ⟨bF, 0, none⟩)] k55 (config_Check.odd x.f4) l w := by
  intro W o cs hb hx hK
  obtain rfl := k55_open hK
  have q4 : W.cell? ⟨bF, 4, none⟩ = some (.slice A4 x.f4.length c4) := (blk_cell (blk_below hF hb) 4).trans rfl
  have HB := Aside0.mk ((Below.refl _ W).alloc (Nat.le_refl _) (.cells #[.int .i64 o.f0, .int .i64 o.f1, .int .i64 o.f2] 55))
  have q4' := pw_cell_below HB.out q4
  have C0 := Aside0.mk (fun (V : World) (hV : Below W.heap.size W V) => config_Check.contains A4 c4 x.f4 o.f0 V (Kd.C_below h4 (below_step hb hV)) k4)
  have C1 := Aside0.mk (fun V => config_Check.within o.f1 0 1099511627776 V)
  have C2 := Aside0.mk (fun V => config_Check.within o.f2 0 999 V)
  have HO : Aside0 (config_Check.odd x.f4 o = (!(config_Check.has x.f4 o.f0) || !(config_Check.wi o.f1 0 1099511627776) || !(config_Check.wi o.f2 0 999))) := ⟨rfl⟩
  have BK := Aside0.mk (blk_new W (.cells #[.int .i64 o.f0, .int .i64 o.f1, .int .i64 o.f2] 55 (0, 0)))
  have hu := Try.underlying55
  clear hb hK hx hF h4 k4
  cases h0 : config_Check.has x.f4 o.f0 <;> cases h1 : config_Check.wi o.f1 0 1099511627776 <;> cases h2 : config_Check.wi o.f2 0 999
  all_goals
    rw [h0, h1, h2] at HO
    rw [h0] at C0
    rw [h1] at C1
    rw [h2] at C2
    clear h0 h1 h2
    go_enter Try.func39, Try.ntmps39
    go_wp2_with (first
      | (go_at_call 38; refine (C0.out _ HB.out).mono ?_; rintro e w1 ⟨rfl, hb1⟩; have B1 := Aside0.mk (below_step HB.out hb1); have K1 := Aside0.mk (blk_below BK.out hb1); have k10 : w1.cell? ⟨W.heap.size, 1, none⟩ = some (.int .i64 o.f1) := (blk_cell K1.out 1).trans rfl; have k11 : w1.cell? ⟨W.heap.size, 2, none⟩ = some (.int .i64 o.f2) := (blk_cell K1.out 2).trans rfl; clear hb1)
      | (go_at_call 25; with_reducible refine (C1.out _).mono ?_; rintro e w2 ⟨rfl, hb2⟩; have B2 := Aside0.mk (below_step B1.out hb2); have K2 := Aside0.mk (blk_below K1.out hb2); have k21 : w2.cell? ⟨W.heap.size, 2, none⟩ = some (.int .i64 o.f2) := (blk_cell K2.out 2).trans rfl; clear hb2)
      | (go_at_call 25; with_reducible refine (C2.out _).mono ?_; rintro e w3 ⟨rfl, hb3⟩; have B3 := Aside0.mk (below_step B2.out hb3); clear hb3))
    go_ret
    exact ⟨by rw [HO.out]; rfl, by first | exact B3.out | exact B2.out | exact B1.out⟩

theorem config_Check.Try.func {w : World} {v : Value} {e : Int} (h : config_Check.Try w v e) : ∃ g lb, v = .func (.func g) #[] lb := by
  obtain ⟨g, lb, h, _⟩ := h
  exact ⟨g, lb, h⟩
theorem config_Check.first_eq (vs : List Value) (es : List Int) (ad : Addr) (n c : Nat) (w : World) (r : Int) (hv : vs.length = n) (he : es.length = n) (hn : n ≤ 1000) (hc : ∀ i v, vs[i]? = some v → w.cell? (ad.add i) = some v)
    (ht : ∀ (i : Nat) v e, vs[i]? = some v → es[i]? = some e → config_Check.Try w v e) (hr : config_Check.firstE es = r) : Calls Try.prog 21 #[.slice (some ad) n c] w fun e w' => e = .returned (.int .i64 r) ∧ Below w.heap.size w w' := by
  subst hr
  exact config_Check.first vs es ad n c w hv he hn hc ht
theorem config_Check.cells_of {w : World} {b : Nat} {vs : List Value} {t : TypeId} (h : w.heap[b]? = some (.cells vs.toArray t (0, 0))) : ∀ (i : Nat) v, vs[i]? = some v → w.cell? ((⟨b, 0, none⟩ : Addr).add i) = some v := by
  intro i v hv
  have := blk_cell h i
  rw [add_plain]
  simpa [hv] using this
theorem config_Check.try2 {w : World} {v1 v2 : Value} {e1 e2 : Int} (h1 : config_Check.Try w v1 e1) (h2 : config_Check.Try w v2 e2) : ∀ (i : Nat) v e, [v1, v2][i]? = some v → [e1, e2][i]? = some e → config_Check.Try w v e := by
  intro i v e hv he
  match i with
  | 0 => simp at hv he; subst hv; subst he; exact h1
  | 1 => simp at hv he; subst hv; subst he; exact h2
  | i + 2 => simp at hv
theorem config_Check.sends_drop {pubs : List Int} {look : Int} {l : List S55} {kk : Nat} {o : S55} (ho : l[kk]? = some o) : config_Check.sendsE pubs look (l.drop kk) = if config_Check.sendE pubs look o = 0 then config_Check.sendsE pubs look (l.drop (kk + 1)) else config_Check.sendE pubs look o := by
  obtain ⟨hk, rfl⟩ := List.getElem?_eq_some_iff.1 ho
  rw [List.drop_eq_getElem_cons hk, config_Check.sendsE]
theorem config_Check.rules_drop {pubs : List Int} {look most : Int} {l : List S44} {kk : Nat} {r : S44} (hr : l[kk]? = some r) : config_Check.rulesE pubs look most (l.drop kk) = if most ≤ r.f1 then 81 else if config_Check.sendsE pubs look r.f3 = 0 then config_Check.rulesE pubs look most (l.drop (kk + 1)) else config_Check.sendsE pubs look r.f3 := by
  obtain ⟨hk, rfl⟩ := List.getElem?_eq_some_iff.1 hr
  rw [List.drop_eq_getElem_cons hk, config_Check.rulesE]
set_option maxRecDepth 100000 in
set_option maxHeartbeats 4000000 in
theorem config_Check.rules (x : S42) (A3 A4 : Option Addr) (c3 c4 bF bM : Nat) (v0 v2 v5 v6 : Value) (most : Int) (w : World) (hF : w.heap[bF]? = some (.cells #[v0, .int .i64 x.f1, v2, .slice A3 x.f3.length c3, .slice A4 x.f4.length c4, v5, v6] 42 (0, 0)))
    (hM : w.heap[bM]? = some (.cells #[.int .i64 most] 3 (0, 0))) (h3 : Kd.C k44 w A3 x.f3.length x.f3) (h4 : Kd.C (Kd.int .i64) w A4 x.f4.length x.f4) (k4 : x.f4.length ≤ c4) :
    Calls Try.prog 37 #[.pointer (some ⟨bF, 0, none⟩), .pointer (some ⟨bM, 0, none⟩)] w fun e w' => e = .returned (.int .i64 (config_Check.rulesE x.f4 x.f1 most x.f3)) ∧ Below w.heap.size w w' := by
  have hmax : x.f3.length ≤ 9223372036854775807 := h3.2.1
  have BF := Aside0.mk hF
  have BM := Aside0.mk hM
  have H3 := Aside0.mk h3
  have H4 := Aside0.mk h4
  have K4 := Aside0.mk k4
  have q3 : w.cell? ⟨bF, 3, none⟩ = some (.slice A3 x.f3.length c3) := (blk_cell hF 3).trans rfl
  clear hF hM h3 h4 k4
  go_enter Try.func37, Try.ntmps37
  go_wp2
  clear q3
  go_loopg [11] x.f3.length (fun gg s11 wr => ∃ kk : Nat, kk ≤ x.f3.length ∧ x.f3.length - kk ≤ gg ∧ s11 = .int .i64 kk ∧ Aside0 (Below w.heap.size w wr) ∧ Aside0 (config_Check.rulesE x.f4 x.f1 most x.f3 = config_Check.rulesE x.f4 x.f1 most (x.f3.drop kk)))
  case atStart => exact ⟨0, Nat.zero_le _, by omega, rfl, ⟨Below.refl _ w⟩, ⟨rfl⟩⟩
  case round =>
    obtain ⟨kk, hkk, hg, rfl, BW, EQ⟩ := hrel
    by_cases hlt : kk < x.f3.length
    · have hltz : (kk : Int) < (x.f3.length : Int) := by omega
      have hk0 : (0 : Int) ≤ (kk : Int) := Int.natCast_nonneg kk
      obtain ⟨r, hx⟩ : ∃ r, x.f3[kk]? = some r := ⟨_, List.getElem?_eq_getElem hlt⟩
      obtain ⟨ad, cs, rfl, hcl, hK, hcell⟩ := cells_at (Kd.C_below H3.out BW.out) hx
      obtain ⟨AS, cS, rfl, lS, gS⟩ := k44_open hK
      have q0 : wr.cell? (ad.add (kk * 4)) = some (.int .i64 r.f0) := by exact hcell 0 _ rfl
      have q1 : wr.cell? ⟨(ad.add (kk * 4)).block, (ad.add (kk * 4)).off + 1, none⟩ = some (.int .i64 r.f1) := by have := hcell 1 _ rfl; rwa [add_field _ _ 1 (by omega)] at this
      have q2 : wr.cell? ⟨(ad.add (kk * 4)).block, (ad.add (kk * 4)).off + 2, none⟩ = some (.int .i64 r.f2) := by have := hcell 2 _ rfl; rwa [add_field _ _ 2 (by omega)] at this
      have q3 : wr.cell? ⟨(ad.add (kk * 4)).block, (ad.add (kk * 4)).off + 3, none⟩ = some (.slice AS r.f3.length cS) := by have := hcell 3 _ rfl; rwa [add_field _ _ 3 (by omega)] at this
      have ED := Aside0.mk (EQ.out.trans (config_Check.rules_drop hx))
      have HG := Aside0.mk hg
      have hmS : r.f3.length ≤ 9223372036854775807 := gS.2.1
      have GS := Aside0.mk (Kd.C_below gS (below_alloc (Below.refl _ wr) (.cells #[.int .i64 r.f0, .int .i64 r.f1, .int .i64 r.f2, .slice AS r.f3.length cS] 44 (0, 0))))
      have BW1 := Aside0.mk (below_alloc BW.out (.cells #[.int .i64 r.f0, .int .i64 r.f1, .int .i64 r.f2, .slice AS r.f3.length cS] 44 (0, 0)))
      have m1 : World.cell? (wr.alloc (.cells #[.int .i64 r.f0, .int .i64 r.f1, .int .i64 r.f2, .slice AS r.f3.length cS] 44 (0, 0))) ⟨bM, 0, none⟩ = some (.int .i64 most) := (blk_cell (blk_below BM.out BW1.out) 0).trans rfl
      clear hcell hK hcl hx hg gS lS
      by_cases hc : most ≤ r.f1
      · have EZ : Aside0 (config_Check.rulesE x.f4 x.f1 most x.f3 = 81) := ⟨by rw [ED.out, if_pos hc]⟩
        go_wp2
        go_ret
        exact ⟨by rw [EZ.out]; rfl, BW1.out⟩
      · have EZ : Aside0 (config_Check.rulesE x.f4 x.f1 most x.f3 = if config_Check.sendsE x.f4 x.f1 r.f3 = 0 then config_Check.rulesE x.f4 x.f1 most (x.f3.drop (kk + 1)) else config_Check.sendsE x.f4 x.f1 r.f3) := ⟨by rw [ED.out, if_neg hc]⟩
        go_wp2
        generalize hW1 : wr.alloc (.cells #[.int .i64 r.f0, .int .i64 r.f1, .int .i64 r.f2, .slice AS r.f3.length cS] 44 (0, 0)) = W1 at *
        clear hW1 q0 q1 q2 q3 m1 hc
        go_loopg [22] r.f3.length (fun gg s22 wi => ∃ jj : Nat, jj ≤ r.f3.length ∧ r.f3.length - jj ≤ gg ∧ s22 = .int .i64 jj ∧ Aside0 (Below W1.heap.size W1 wi) ∧ Aside0 (config_Check.sendsE x.f4 x.f1 r.f3 = config_Check.sendsE x.f4 x.f1 (r.f3.drop jj)))
        case atStart => exact ⟨0, Nat.zero_le _, by omega, rfl, ⟨Below.refl _ W1⟩, ⟨rfl⟩⟩
        case round =>
          obtain ⟨jj, hjj, hgj, rfl, BI, EJ⟩ := hrel
          by_cases hltj : jj < r.f3.length
          · have hltzj : (jj : Int) < (r.f3.length : Int) := by omega
            have hj0 : (0 : Int) ≤ (jj : Int) := Int.natCast_nonneg jj
            obtain ⟨o, ho⟩ : ∃ o, r.f3[jj]? = some o := ⟨_, List.getElem?_eq_getElem hltj⟩
            obtain ⟨ado, cso, rfl, hclo, hKo, hcello⟩ := cells_at (Kd.C_below GS.out BI.out) ho
            obtain rfl := k55_open hKo
            have p0 : wr.cell? (ado.add (jj * 3)) = some (.int .i64 o.f0) := by exact hcello 0 _ rfl
            have p1 : wr.cell? ⟨(ado.add (jj * 3)).block, (ado.add (jj * 3)).off + 1, none⟩ = some (.int .i64 o.f1) := by have := hcello 1 _ rfl; rwa [add_field _ _ 1 (by omega)] at this
            have p2 : wr.cell? ⟨(ado.add (jj * 3)).block, (ado.add (jj * 3)).off + 2, none⟩ = some (.int .i64 o.f2) := by have := hcello 2 _ rfl; rwa [add_field _ _ 2 (by omega)] at this
            have EE := Aside0.mk (EJ.out.trans (config_Check.sends_drop ho))
            have HGJ := Aside0.mk hgj
            clear hcello hKo hclo ho hgj
            obtain ⟨e9, he9⟩ : ∃ e9, config_Check.sendE x.f4 x.f1 o = e9 := ⟨_, rfl⟩
            have HE : Aside0 (config_Check.firstE [config_Check.un (config_Check.has x.f4 o.f0) 81, config_Check.un (decide (x.f1 ≤ o.f1)) 80] = e9) := ⟨he9⟩
            rw [he9] at EE
            clear he9
            have BW2 := Aside0.mk (below_step BW1.out (below_alloc BI.out (.cells #[.int .i64 o.f0, .int .i64 o.f1, .int .i64 o.f2] 55 (0, 0))))
            have BI2 := Aside0.mk (below_alloc BI.out (.cells #[.int .i64 o.f0, .int .i64 o.f1, .int .i64 o.f2] 55 (0, 0)))
            have BF2 := Aside0.mk (blk_below BF.out BW2.out)
            have BO2 := Aside0.mk (blk_new wr (.cells #[.int .i64 o.f0, .int .i64 o.f1, .int .i64 o.f2] 55 (0, 0)))
            go_wp2
            generalize hW2 : wr.alloc (.cells #[.int .i64 o.f0, .int .i64 o.f1, .int .i64 o.f2] 55 (0, 0)) = W2 at *
            clear hW2 p0 p1 p2
            refine Till.begin 99 (fun w' => w'.cell? ⟨bF, 4, none⟩ = some (.slice A4 x.f4.length c4) ∧ w'.cell? ⟨bF, 1, none⟩ = some (.int .i64 x.f1) ∧ w'.cell? ⟨wr.heap.size, 0, none⟩ = some (.int .i64 o.f0) ∧ w'.cell? ⟨wr.heap.size, 1, none⟩ = some (.int .i64 o.f1)) (by kernel_rfl) ?_
            have X0 : Aside0 (Below W2.heap.size W2 W2.drew) := ⟨below_drew1 (Below.refl _ _)⟩
            have hHeld : (fun w' => w'.cell? ⟨bF, 4, none⟩ = some (.slice A4 x.f4.length c4) ∧ w'.cell? ⟨bF, 1, none⟩ = some (.int .i64 x.f1) ∧ w'.cell? ⟨wr.heap.size, 0, none⟩ = some (.int .i64 o.f0) ∧ w'.cell? ⟨wr.heap.size, 1, none⟩ = some (.int .i64 o.f1)) W2.drew := ⟨(blk_cell (blk_below BF2.out X0.out) 4).trans rfl, (blk_cell (blk_below BF2.out X0.out) 1).trans rfl, (blk_cell (blk_below BO2.out X0.out) 0).trans rfl, (blk_cell (blk_below BO2.out X0.out) 1).trans rfl⟩
            refine Till.take 0 (v := ?_) rfl (by kernel_rfl) (by kernel_rfl) (by kernel_rfl) (by kernel_rfl) (fun _ _ _ h => h) (Or.inl ⟨by rfl, ?_⟩) hHeld ?_
            rotate_left
            · (intro w hSw; obtain ⟨s0, s1, s2, s3⟩ := hSw; go_simp; try with_reducible rfl)
            try simp only [Act.put, List.setIfInBounds_toArray, List.set_cons_zero, List.set_cons_succ]
            refine Till.take 1 (v := ?_) rfl (by kernel_rfl) (by kernel_rfl) (by kernel_rfl) (by kernel_rfl) (fun _ _ _ h => h) (Or.inl ⟨by rfl, ?_⟩) hHeld ?_
            rotate_left
            · (intro w hSw; obtain ⟨s0, s1, s2, s3⟩ := hSw; go_simp; try with_reducible rfl)
            try simp only [Act.put, List.setIfInBounds_toArray, List.set_cons_zero, List.set_cons_succ]
            refine Till.take 2 (v := ?_) rfl (by kernel_rfl) (by kernel_rfl) (by kernel_rfl) (by kernel_rfl) (fun _ _ _ h => h) (Or.inl ⟨by rfl, ?_⟩) hHeld ?_
            rotate_left
            · (intro w hSw; obtain ⟨s0, s1, s2, s3⟩ := hSw; go_simp; try with_reducible rfl)
            try simp only [Act.put, List.setIfInBounds_toArray, List.set_cons_zero, List.set_cons_succ]
            refine Till.take 3 (v := ?_) rfl (by kernel_rfl) (by kernel_rfl) (by kernel_rfl) (by kernel_rfl) (fun _ _ _ h => h) (Or.inl ⟨by rfl, ?_⟩) hHeld ?_
            rotate_left
            · (intro w hSw; obtain ⟨s0, s1, s2, s3⟩ := hSw; go_simp; try with_reducible rfl)
            try simp only [Act.put, List.setIfInBounds_toArray, List.set_cons_zero, List.set_cons_succ]
            refine Till.take 6 (v := ?_) rfl (by kernel_rfl) (by kernel_rfl) (by kernel_rfl) (by kernel_rfl) (fun _ _ _ h => h) (Or.inl ⟨by rfl, ?_⟩) hHeld ?_
            rotate_left
            · (intro w hSw; obtain ⟨s0, s1, s2, s3⟩ := hSw; go_simp; try with_reducible rfl)
            try simp only [Act.put, List.setIfInBounds_toArray, List.set_cons_zero, List.set_cons_succ]
            refine Till.take 7 (v := ?_) rfl (by kernel_rfl) (by kernel_rfl) (by kernel_rfl) (by kernel_rfl) (fun _ _ _ h => h) (Or.inl ⟨by rfl, ?_⟩) hHeld ?_
            rotate_left
            · (intro w hSw; obtain ⟨s0, s1, s2, s3⟩ := hSw; go_simp; try with_reducible rfl)
            try simp only [Act.put, List.setIfInBounds_toArray, List.set_cons_zero, List.set_cons_succ]
            refine Till.take 8 (v := ?_) rfl (by kernel_rfl) (by kernel_rfl) (by kernel_rfl) (by kernel_rfl) (fun _ _ _ h => h) (Or.inl ⟨by rfl, ?_⟩) hHeld ?_
            rotate_left
            · (intro w hSw; obtain ⟨s0, s1, s2, s3⟩ := hSw; go_simp; try with_reducible rfl)
            try simp only [Act.put, List.setIfInBounds_toArray, List.set_cons_zero, List.set_cons_succ]
            refine Till.take 9 (v := ?_) rfl (by kernel_rfl) (by kernel_rfl) (by kernel_rfl) (by kernel_rfl) (fun _ _ _ h => h) (Or.inl ⟨by rfl, ?_⟩) hHeld ?_
            rotate_left
            · (intro w hSw; obtain ⟨s0, s1, s2, s3⟩ := hSw; go_simp; try with_reducible rfl)
            try simp only [Act.put, List.setIfInBounds_toArray, List.set_cons_zero, List.set_cons_succ]
            refine Till.take 10 (v := ?_) rfl (by kernel_rfl) (by kernel_rfl) (by kernel_rfl) (by kernel_rfl) (fun _ _ _ h => h) (Or.inl ⟨by rfl, ?_⟩) hHeld ?_
            rotate_left
            · (intro w hSw; obtain ⟨s0, s1, s2, s3⟩ := hSw; go_simp; try with_reducible rfl)
            try simp only [Act.put, List.setIfInBounds_toArray, List.set_cons_zero, List.set_cons_succ]
            refine Till.one 4 (by kernel_rfl) rfl (fun K hK => ?_)
            go_simp
            go_at_call 38
            refine (config_Check.contains A4 c4 x.f4 o.f0 _ (Kd.C_below H4.out (below_step BW2.out X0.out)) K4.out).mono ?_
            rintro e w5 ⟨rfl, hb1⟩
            have X1 := Aside0.mk (below_step X0.out hb1)
            clear hb1
            refine hK.out _ _ ⟨(blk_cell (blk_below BF2.out X1.out) 4).trans rfl, (blk_cell (blk_below BF2.out X1.out) 1).trans rfl, (blk_cell (blk_below BO2.out X1.out) 0).trans rfl, (blk_cell (blk_below BO2.out X1.out) 1).trans rfl⟩ ?_
            clear hHeld hK K
            have hHeld : (fun w' => w'.cell? ⟨bF, 4, none⟩ = some (.slice A4 x.f4.length c4) ∧ w'.cell? ⟨bF, 1, none⟩ = some (.int .i64 x.f1) ∧ w'.cell? ⟨wr.heap.size, 0, none⟩ = some (.int .i64 o.f0) ∧ w'.cell? ⟨wr.heap.size, 1, none⟩ = some (.int .i64 o.f1)) w5 := ⟨(blk_cell (blk_below BF2.out X1.out) 4).trans rfl, (blk_cell (blk_below BF2.out X1.out) 1).trans rfl, (blk_cell (blk_below BO2.out X1.out) 0).trans rfl, (blk_cell (blk_below BO2.out X1.out) 1).trans rfl⟩
            try simp only [Act.put, List.setIfInBounds_toArray, List.set_cons_zero, List.set_cons_succ]
            refine Till.one 5 (by kernel_rfl) rfl (fun K hK => ?_)
            go_simp
            go_at_call 24
            refine (config_Check.unless (config_Check.has x.f4 o.f0) 81 _).mono ?_
            rintro e w6 ⟨v1, rfl, ht1, hb2⟩
            obtain ⟨g1, lb1, rfl⟩ := ht1.func
            have T1 := Aside0.mk ht1
            clear ht1
            have X2 := Aside0.mk (below_step X1.out hb2)
            clear hb2
            refine hK.out _ _ ⟨(blk_cell (blk_below BF2.out X2.out) 4).trans rfl, (blk_cell (blk_below BF2.out X2.out) 1).trans rfl, (blk_cell (blk_below BO2.out X2.out) 0).trans rfl, (blk_cell (blk_below BO2.out X2.out) 1).trans rfl⟩ ?_
            clear hHeld hK K
            have hHeld : (fun w' => w'.cell? ⟨bF, 4, none⟩ = some (.slice A4 x.f4.length c4) ∧ w'.cell? ⟨bF, 1, none⟩ = some (.int .i64 x.f1) ∧ w'.cell? ⟨wr.heap.size, 0, none⟩ = some (.int .i64 o.f0) ∧ w'.cell? ⟨wr.heap.size, 1, none⟩ = some (.int .i64 o.f1)) w6 := ⟨(blk_cell (blk_below BF2.out X2.out) 4).trans rfl, (blk_cell (blk_below BF2.out X2.out) 1).trans rfl, (blk_cell (blk_below BO2.out X2.out) 0).trans rfl, (blk_cell (blk_below BO2.out X2.out) 1).trans rfl⟩
            try simp only [Act.put, List.setIfInBounds_toArray, List.set_cons_zero, List.set_cons_succ]
            refine Till.one 11 (by kernel_rfl) rfl (fun K hK => ?_)
            go_simp
            go_at_call 24
            refine (config_Check.unless _ 80 _).mono ?_
            rintro e w7 ⟨v2, rfl, ht2, hb3⟩
            obtain ⟨g2, lb2, rfl⟩ := ht2.func
            have T2 := Aside0.mk ht2
            have T1' := Aside0.mk (T1.out.below hb3)
            clear ht2
            have X3 := Aside0.mk (below_step X2.out hb3)
            clear hb3
            refine hK.out _ _ ⟨(blk_cell (blk_below BF2.out X3.out) 4).trans rfl, (blk_cell (blk_below BF2.out X3.out) 1).trans rfl, (blk_cell (blk_below BO2.out X3.out) 0).trans rfl, (blk_cell (blk_below BO2.out X3.out) 1).trans rfl⟩ ?_
            clear hHeld hK K
            have hHeld : (fun w' => w'.cell? ⟨bF, 4, none⟩ = some (.slice A4 x.f4.length c4) ∧ w'.cell? ⟨bF, 1, none⟩ = some (.int .i64 x.f1) ∧ w'.cell? ⟨wr.heap.size, 0, none⟩ = some (.int .i64 o.f0) ∧ w'.cell? ⟨wr.heap.size, 1, none⟩ = some (.int .i64 o.f1)) w7 := ⟨(blk_cell (blk_below BF2.out X3.out) 4).trans rfl, (blk_cell (blk_below BF2.out X3.out) 1).trans rfl, (blk_cell (blk_below BO2.out X3.out) 0).trans rfl, (blk_cell (blk_below BO2.out X3.out) 1).trans rfl⟩
            try simp only [Act.put, List.setIfInBounds_toArray, List.set_cons_zero, List.set_cons_succ]
            have BV := Aside0.mk (blk_new w7 (.cells #[.func (.func g1) #[] lb1, .func (.func g2) #[] lb2] 59 (0, 0)))
            have X4 := Aside0.mk (below_alloc X3.out (.cells #[.func (.func g1) #[] lb1, .func (.func g2) #[] lb2] 59 (0, 0)))
            have XA := Aside0.mk (below_alloc (Below.refl _ w7) (.cells #[.func (.func g1) #[] lb1, .func (.func g2) #[] lb2] 59 (0, 0)))
            refine Till.one 12 (by kernel_rfl) rfl (fun K hK => ?_)
            go_simp
            refine hK.out _ _ ⟨(blk_cell (blk_below BF2.out X4.out) 4).trans rfl, (blk_cell (blk_below BF2.out X4.out) 1).trans rfl, (blk_cell (blk_below BO2.out X4.out) 0).trans rfl, (blk_cell (blk_below BO2.out X4.out) 1).trans rfl⟩ ?_
            clear hHeld hK K
            have hHeld : (fun w' => w'.cell? ⟨bF, 4, none⟩ = some (.slice A4 x.f4.length c4) ∧ w'.cell? ⟨bF, 1, none⟩ = some (.int .i64 x.f1) ∧ w'.cell? ⟨wr.heap.size, 0, none⟩ = some (.int .i64 o.f0) ∧ w'.cell? ⟨wr.heap.size, 1, none⟩ = some (.int .i64 o.f1)) (w7.alloc (.cells #[.func (.func g1) #[] lb1, .func (.func g2) #[] lb2] 59 (0, 0))) := ⟨(blk_cell (blk_below BF2.out X4.out) 4).trans rfl, (blk_cell (blk_below BF2.out X4.out) 1).trans rfl, (blk_cell (blk_below BO2.out X4.out) 0).trans rfl, (blk_cell (blk_below BO2.out X4.out) 1).trans rfl⟩
            try simp only [Act.put, List.setIfInBounds_toArray, List.set_cons_zero, List.set_cons_succ]
            refine Till.one 13 (by kernel_rfl) rfl (fun K hK => ?_)
            go_simp
            go_at_call 21
            refine (config_Check.first_eq [.func (.func g1) #[] lb1, .func (.func g2) #[] lb2] [config_Check.un (config_Check.has x.f4 o.f0) 81, config_Check.un (decide (x.f1 ≤ o.f1)) 80] ⟨w7.heap.size, 0, none⟩ 2 2 _ e9 rfl rfl (by omega) (config_Check.cells_of BV.out) (config_Check.try2 (T1'.out.below XA.out) (T2.out.below XA.out)) HE.out).mono ?_
            rintro e w9 ⟨rfl, hb5⟩
            have X5 := Aside0.mk (below_step X4.out hb5)
            clear hb5
            refine hK.out _ _ ⟨(blk_cell (blk_below BF2.out X5.out) 4).trans rfl, (blk_cell (blk_below BF2.out X5.out) 1).trans rfl, (blk_cell (blk_below BO2.out X5.out) 0).trans rfl, (blk_cell (blk_below BO2.out X5.out) 1).trans rfl⟩ ?_
            clear hHeld hK K
            have hHeld : (fun w' => w'.cell? ⟨bF, 4, none⟩ = some (.slice A4 x.f4.length c4) ∧ w'.cell? ⟨bF, 1, none⟩ = some (.int .i64 x.f1) ∧ w'.cell? ⟨wr.heap.size, 0, none⟩ = some (.int .i64 o.f0) ∧ w'.cell? ⟨wr.heap.size, 1, none⟩ = some (.int .i64 o.f1)) w9 := ⟨(blk_cell (blk_below BF2.out X5.out) 4).trans rfl, (blk_cell (blk_below BF2.out X5.out) 1).trans rfl, (blk_cell (blk_below BO2.out X5.out) 0).trans rfl, (blk_cell (blk_below BO2.out X5.out) 1).trans rfl⟩
            try simp only [Act.put, List.setIfInBounds_toArray, List.set_cons_zero, List.set_cons_succ]
            refine Till.take 14 (v := ?_) rfl (by kernel_rfl) (by kernel_rfl) (by kernel_rfl) (by kernel_rfl) (fun _ _ _ h => h) (Or.inl ⟨by rfl, ?_⟩) hHeld ?_
            rotate_left
            · (intro w hSw; obtain ⟨s0, s1, s2, s3⟩ := hSw; go_simp; try with_reducible rfl)
            try simp only [Act.put, List.setIfInBounds_toArray, List.set_cons_zero, List.set_cons_succ]
            refine Till.done (by kernel_rfl) ?_
            clear hHeld
            have BI5 := Aside0.mk (below_step BI2.out X5.out)
            by_cases hz : e9 = 0
            · have EK : Aside0 (config_Check.sendsE x.f4 x.f1 r.f3 = config_Check.sendsE x.f4 x.f1 (r.f3.drop (jj + 1))) := ⟨by rw [EE.out, if_pos hz]⟩
              subst hz
              go_wp2
              go_roundg (r.f3.length - (jj + 1))
              case measure => have := HGJ.out; omega
              case rel => exact ⟨jj + 1, by omega, by omega, by go_num, BI5, EK⟩
            · have EK : Aside0 (config_Check.rulesE x.f4 x.f1 most x.f3 = e9) := ⟨by rw [EZ.out, EE.out, if_neg hz, if_neg hz]⟩
              have b1 : ((e9 : Int) == 0) = false := by simp [hz]
              have b2 : ((e9 : Int) != 0) = true := by simp [hz]
              go_wp2
              go_ret
              exact ⟨by rw [EK.out]; rfl, below_step BW1.out BI5.out⟩
          · have hltzj : ¬ (jj : Int) < (r.f3.length : Int) := by omega
            have EK : Aside0 (config_Check.rulesE x.f4 x.f1 most x.f3 = config_Check.rulesE x.f4 x.f1 most (x.f3.drop (kk + 1))) := ⟨by rw [EZ.out, EJ.out, List.drop_eq_nil_of_le (by omega)]; rfl⟩
            go_wp2
            go_roundg (x.f3.length - (kk + 1))
            case measure => have := HG.out; omega
            case rel => exact ⟨kk + 1, by omega, by omega, by go_num, ⟨below_step BW1.out BI.out⟩, EK⟩
    · have hltz : ¬ (kk : Int) < (x.f3.length : Int) := by omega
      have EZ : Aside0 (config_Check.rulesE x.f4 x.f1 most x.f3 = 0) := ⟨by rw [EQ.out, List.drop_eq_nil_of_le (by omega)]; rfl⟩
      go_wp2
      go_ret
      exact ⟨by rw [EZ.out]; rfl, BW.out⟩
def config_Check.FS (b : Nat) (x : S42) (A4 A5 A6 : Option Addr) (c4 c5 c6 : Nat) (w : World) : Prop := w.cell? ⟨b, 0, none⟩ = some (.int .i64 x.f0) ∧ w.cell? ⟨b, 1, none⟩ = some (.int .i64 x.f1) ∧ w.cell? ⟨b, 2, none⟩ = some (.int .i64 x.f2) ∧ w.cell? ⟨b, 4, none⟩ = some (.slice A4 x.f4.length c4) ∧ w.cell? ⟨b, 5, none⟩ = some (.slice A5 x.f5.length c5) ∧ w.cell? ⟨b, 6, none⟩ = some (.slice A6 x.f6.length c6)
theorem config_Check.FS_of {b : Nat} {x : S42} {v3 : Value} {A4 A5 A6 : Option Addr} {c4 c5 c6 : Nat} {w : World} (h : w.heap[b]? = some (.cells #[.int .i64 x.f0, .int .i64 x.f1, .int .i64 x.f2, v3, .slice A4 x.f4.length c4, .slice A5 x.f5.length c5, .slice A6 x.f6.length c6] 42 (0, 0))) : config_Check.FS b x A4 A5 A6 c4 c5 c6 w :=
  ⟨(blk_cell h 0).trans rfl, (blk_cell h 1).trans rfl, (blk_cell h 2).trans rfl, (blk_cell h 4).trans rfl, (blk_cell h 5).trans rfl, (blk_cell h 6).trans rfl⟩
theorem config_Check.try7 {w : World} {v0 v1 v2 v3 v4 v5 v6 : Value} {e0 e1 e2 e3 e4 e5 e6 : Int} (h0 : config_Check.Try w v0 e0) (h1 : config_Check.Try w v1 e1) (h2 : config_Check.Try w v2 e2) (h3 : config_Check.Try w v3 e3) (h4 : config_Check.Try w v4 e4) (h5 : config_Check.Try w v5 e5) (h6 : config_Check.Try w v6 e6) :
    ∀ (i : Nat) v e, [v0, v1, v2, v3, v4, v5, v6][i]? = some v → [e0, e1, e2, e3, e4, e5, e6][i]? = some e → config_Check.Try w v e := by
  intro i v e hv he
  match i with
  | 0 => simp at hv he; subst hv; subst he; exact h0
  | 1 => simp at hv he; subst hv; subst he; exact h1
  | 2 => simp at hv he; subst hv; subst he; exact h2
  | 3 => simp at hv he; subst hv; subst he; exact h3
  | 4 => simp at hv he; subst hv; subst he; exact h4
  | 5 => simp at hv he; subst hv; subst he; exact h5
  | 6 => simp at hv he; subst hv; subst he; exact h6
  | i + 7 => simp at hv
set_option maxRecDepth 100000 in
set_option maxHeartbeats 4000000 in
theorem config_Check.table (x : S42) (A3 : Option Addr) (c3 bF : Nat) (v0 v1 v2 v4 v5 v6 : Value) (w : World) (hF : w.heap[bF]? = some (.cells #[v0, v1, v2, .slice A3 x.f3.length c3, v4, v5, v6] 42 (0, 0)))
    (h3 : Kd.C k44 w A3 x.f3.length x.f3) (k3 : x.f3.length ≤ c3) (hwf : x.f3.all table_Check.wfr = true) :
    Calls Try.prog 40 #[.pointer (some ⟨bF, 0, none⟩)] w fun e w' => e = .returned (.int .i64 (config_Check.tableE x.f3)) ∧ Below w.heap.size w w' := by
  have q3 : w.cell? ⟨bF, 3, none⟩ = some (.slice A3 x.f3.length c3) := (blk_cell hF 3).trans rfl
  have CT := Aside0.mk (table_Check.calls A3 c3 x.f3 (config_Check.tableE x.f3) w h3 k3 (by unfold table_Check.f; rw [if_pos hwf]; rfl))
  clear hF h3 k3 hwf
  go_enter Try.func40, Try.ntmps40
  go_wp2_with (go_at_call 41; refine CT.out.mono ?_; rintro e w' ⟨rfl, hb'⟩)
  go_ret
  exact ⟨rfl, hb'⟩
set_option maxRecDepth 100000 in
set_option maxHeartbeats 8000000 in
theorem config_Check.fed (x : S42) (A3 A4 A5 A6 : Option Addr) (c3 c4 c5 c6 : Nat) (most : Int) (w : World) (g3 : Kd.C k44 w A3 x.f3.length x.f3) (k3 : x.f3.length ≤ c3) (g4 : Kd.C (Kd.int .i64) w A4 x.f4.length x.f4) (k4 : x.f4.length ≤ c4)
    (g5 : Kd.C (Kd.int .i64) w A5 x.f5.length x.f5) (g6 : Kd.C k55 w A6 x.f6.length x.f6) (hwf : x.f3.all table_Check.wfr = true) :
    Calls Try.prog 26 #[.agg #[.int .i64 x.f0, .int .i64 x.f1, .int .i64 x.f2, .slice A3 x.f3.length c3, .slice A4 x.f4.length c4, .slice A5 x.f5.length c5, .slice A6 x.f6.length c6], .int .i64 most] w fun e w' => e = .returned (.int .i64 (config_Check.fedE x most)) ∧ Below w.heap.size w w' := by
  have hmf : ∀ (fn : Fn) (first cap : Array Value) (w : World), (Instr.makeFunc fn first cap).run Try.prog w = .ok (.func fn first cap) w := fun _ _ _ _ => rfl
  have eg : ∀ (args : Array Value) (w : World), (callFunc 36 args).run Try.prog w = .ok (.enter 36 args) w := enters_of Try.func36 (by kernel_rfl) rfl
  have hm6 : x.f6.length ≤ 9223372036854775807 := g6.2.1
  have BW0 := Aside0.mk (config_Check.below2 w (.cells #[.int .i64 x.f0, .int .i64 x.f1, .int .i64 x.f2, .slice A3 x.f3.length c3, .slice A4 x.f4.length c4, .slice A5 x.f5.length c5, .slice A6 x.f6.length c6] 42 (0, 0)) (.cells #[.int .i64 most] 3 (0, 0)))
  have BF0 := Aside0.mk (blk_alloc (blk_new w (.cells #[.int .i64 x.f0, .int .i64 x.f1, .int .i64 x.f2, .slice A3 x.f3.length c3, .slice A4 x.f4.length c4, .slice A5 x.f5.length c5, .slice A6 x.f6.length c6] 42 (0, 0))) (.cells #[.int .i64 most] 3 (0, 0)))
  have BM0 : Aside0 (((w.alloc (.cells #[.int .i64 x.f0, .int .i64 x.f1, .int .i64 x.f2, .slice A3 x.f3.length c3, .slice A4 x.f4.length c4, .slice A5 x.f5.length c5, .slice A6 x.f6.length c6] 42 (0, 0))).alloc (.cells #[.int .i64 most] 3 (0, 0))).heap[w.heap.size + 1]? = some (.cells #[.int .i64 most] 3 (0, 0))) := ⟨by simpa using blk_new (w.alloc (.cells #[.int .i64 x.f0, .int .i64 x.f1, .int .i64 x.f2, .slice A3 x.f3.length c3, .slice A4 x.f4.length c4, .slice A5 x.f5.length c5, .slice A6 x.f6.length c6] 42 (0, 0))) (.cells #[.int .i64 most] 3 (0, 0))⟩
  have G3 := Aside0.mk g3
  have G4 := Aside0.mk g4
  have G5 := Aside0.mk g5
  have G6 := Aside0.mk g6
  have K3 := Aside0.mk k3
  have K4 := Aside0.mk k4
  have HWF := Aside0.mk hwf
  clear g3 g4 g5 g6 k3 k4 hwf
  go_enter Try.func26, Try.ntmps26
  go_wp2
  generalize hW0 : (w.alloc (.cells #[.int .i64 x.f0, .int .i64 x.f1, .int .i64 x.f2, .slice A3 x.f3.length c3, .slice A4 x.f4.length c4, .slice A5 x.f5.length c5, .slice A6 x.f6.length c6] 42 (0, 0))).alloc (.cells #[.int .i64 most] 3 (0, 0)) = W0 at *
  clear hW0
  have R4 := Aside0.mk (fun (V : World) (hV : Below W0.heap.size W0 V) => config_Check.rises A4 c4 x.f4 most (w.heap.size + 1) V (Kd.C_below G4.out (below_step BW0.out hV)) (blk_below BM0.out hV))
  have R5 := Aside0.mk (fun (V : World) (hV : Below W0.heap.size W0 V) => config_Check.rises A5 c5 x.f5 most (w.heap.size + 1) V (Kd.C_below G5.out (below_step BW0.out hV)) (blk_below BM0.out hV))
  have R6 := Aside0.mk (fun (V : World) (hV : Below W0.heap.size W0 V) => contains_out k55 rfl (config_Check.odd x.f4) 39 #[.pointer (some ⟨w.heap.size, 0, none⟩)] (enters_of Try.func39 (by kernel_rfl) rfl) A6 c6 x.f6 V (Kd.C_below G6.out (below_step BW0.out hV))
    (config_Check.odds x A4 c4 w.heap.size _ _ _ _ _ _ x.f6 V (blk_below BF0.out hV) (Kd.C_below G4.out (below_step BW0.out hV)) K4.out))
  have T3 : Aside0 (config_Check.Try W0 (.func (.func 40) #[] #[.pointer (some ⟨w.heap.size, 0, none⟩)]) (config_Check.tableE x.f3)) := ⟨⟨_, _, rfl, enters_of Try.func40 (by kernel_rfl) rfl, fun V hV => config_Check.table x A3 c3 w.heap.size _ _ _ _ _ _ V (blk_below BF0.out hV) (Kd.C_below G3.out (below_step BW0.out hV)) K3.out HWF.out⟩⟩
  have T5 : Aside0 (config_Check.Try W0 (.func (.func 37) #[] #[.pointer (some ⟨w.heap.size, 0, none⟩), .pointer (some ⟨w.heap.size + 1, 0, none⟩)]) (config_Check.rulesE x.f4 x.f1 most x.f3)) := ⟨⟨_, _, rfl, enters_of Try.func37 (by kernel_rfl) rfl, fun V hV => config_Check.rules x A3 A4 c3 c4 w.heap.size (w.heap.size + 1) _ _ _ _ most V (blk_below BF0.out hV) (blk_below BM0.out hV) (Kd.C_below G3.out (below_step BW0.out hV)) (Kd.C_below G4.out (below_step BW0.out hV)) K4.out⟩⟩
  refine Till.begin 99 (config_Check.FS w.heap.size x A4 A5 A6 c4 c5 c6) (by kernel_rfl) ?_
  have X0 : Aside0 (Below W0.heap.size W0 W0.drew) := ⟨below_drew1 (Below.refl _ _)⟩
  have hHeld : (config_Check.FS w.heap.size x A4 A5 A6 c4 c5 c6) W0.drew := (config_Check.FS_of (blk_below BF0.out X0.out))
  refine Till.take 0 (v := ?_) rfl (by kernel_rfl) (by kernel_rfl) (by kernel_rfl) (by kernel_rfl) (fun _ _ _ h => h) (Or.inl ⟨by rfl, ?_⟩) hHeld ?_
  rotate_left
  · (intro w hSw; obtain ⟨s0, s1, s2, s3, s4, s5⟩ := hSw; go_simp; try with_reducible rfl)
  try simp only [Act.put, List.setIfInBounds_toArray, List.set_cons_zero, List.set_cons_succ]
  refine Till.take 1 (v := ?_) rfl (by kernel_rfl) (by kernel_rfl) (by kernel_rfl) (by kernel_rfl) (fun _ _ _ h => h) (Or.inl ⟨by rfl, ?_⟩) hHeld ?_
  rotate_left
  · (intro w hSw; obtain ⟨s0, s1, s2, s3, s4, s5⟩ := hSw; go_simp; try with_reducible rfl)
  try simp only [Act.put, List.setIfInBounds_toArray, List.set_cons_zero, List.set_cons_succ]
  refine Till.take 4 (v := ?_) rfl (by kernel_rfl) (by kernel_rfl) (by kernel_rfl) (by kernel_rfl) (fun _ _ _ h => h) (Or.inl ⟨by rfl, ?_⟩) hHeld ?_
  rotate_left
  · (intro w hSw; obtain ⟨s0, s1, s2, s3, s4, s5⟩ := hSw; go_simp; try with_reducible rfl)
  try simp only [Act.put, List.setIfInBounds_toArray, List.set_cons_zero, List.set_cons_succ]
  refine Till.take 5 (v := ?_) rfl (by kernel_rfl) (by kernel_rfl) (by kernel_rfl) (by kernel_rfl) (fun _ _ _ h => h) (Or.inl ⟨by rfl, ?_⟩) hHeld ?_
  rotate_left
  · (intro w hSw; obtain ⟨s0, s1, s2, s3, s4, s5⟩ := hSw; go_simp; try with_reducible rfl)
  try simp only [Act.put, List.setIfInBounds_toArray, List.set_cons_zero, List.set_cons_succ]
  refine Till.take 8 (v := ?_) rfl (by kernel_rfl) (by kernel_rfl) (by kernel_rfl) (by kernel_rfl) (fun _ _ _ h => h) (Or.inl ⟨by rfl, ?_⟩) hHeld ?_
  rotate_left
  · (intro w hSw; obtain ⟨s0, s1, s2, s3, s4, s5⟩ := hSw; go_simp; try with_reducible rfl)
  try simp only [Act.put, List.setIfInBounds_toArray, List.set_cons_zero, List.set_cons_succ]
  refine Till.take 9 (v := ?_) rfl (by kernel_rfl) (by kernel_rfl) (by kernel_rfl) (by kernel_rfl) (fun _ _ _ h => h) (Or.inl ⟨by rfl, ?_⟩) hHeld ?_
  rotate_left
  · (intro w hSw; obtain ⟨s0, s1, s2, s3, s4, s5⟩ := hSw; go_simp; try with_reducible rfl)
  try simp only [Act.put, List.setIfInBounds_toArray, List.set_cons_zero, List.set_cons_succ]
  refine Till.take 12 (v := ?_) rfl (by kernel_rfl) (by kernel_rfl) (by kernel_rfl) (by kernel_rfl) (fun _ _ _ h => h) (Or.inl ⟨by rfl, ?_⟩) hHeld ?_
  rotate_left
  · (intro w hSw; obtain ⟨s0, s1, s2, s3, s4, s5⟩ := hSw; go_simp; try with_reducible rfl)
  try simp only [Act.put, List.setIfInBounds_toArray, List.set_cons_zero, List.set_cons_succ]
  refine Till.take 13 (v := ?_) rfl (by kernel_rfl) (by kernel_rfl) (by kernel_rfl) (by kernel_rfl) (fun _ _ _ h => h) (Or.inl ⟨by rfl, ?_⟩) hHeld ?_
  rotate_left
  · (intro w hSw; obtain ⟨s0, s1, s2, s3, s4, s5⟩ := hSw; go_simp; try with_reducible rfl)
  try simp only [Act.put, List.setIfInBounds_toArray, List.set_cons_zero, List.set_cons_succ]
  refine Till.take 14 (v := ?_) rfl (by kernel_rfl) (by kernel_rfl) (by kernel_rfl) (by kernel_rfl) (fun _ _ _ h => h) (Or.inl ⟨by rfl, ?_⟩) hHeld ?_
  rotate_left
  · (intro w hSw; obtain ⟨s0, s1, s2, s3, s4, s5⟩ := hSw; go_simp; try with_reducible rfl)
  try simp only [Act.put, List.setIfInBounds_toArray, List.set_cons_zero, List.set_cons_succ]
  refine Till.take 15 (v := ?_) rfl (by kernel_rfl) (by kernel_rfl) (by kernel_rfl) (by kernel_rfl) (fun _ _ _ h => h) (Or.inl ⟨by rfl, ?_⟩) hHeld ?_
  rotate_left
  · (intro w hSw; obtain ⟨s0, s1, s2, s3, s4, s5⟩ := hSw; go_simp; try with_reducible rfl)
  try simp only [Act.put, List.setIfInBounds_toArray, List.set_cons_zero, List.set_cons_succ]
  refine Till.take 24 (v := ?_) rfl (by kernel_rfl) (by kernel_rfl) (by kernel_rfl) (by kernel_rfl) (fun _ _ _ h => h) (Or.inl ⟨by rfl, ?_⟩) hHeld ?_
  rotate_left
  · (intro w hSw; obtain ⟨s0, s1, s2, s3, s4, s5⟩ := hSw; go_simp; try with_reducible rfl)
  try simp only [Act.put, List.setIfInBounds_toArray, List.set_cons_zero, List.set_cons_succ]
  refine Till.take 25 (v := ?_) rfl (by kernel_rfl) (by kernel_rfl) (by kernel_rfl) (by kernel_rfl) (fun _ _ _ h => h) (Or.inl ⟨by rfl, ?_⟩) hHeld ?_
  rotate_left
  · (intro w hSw; obtain ⟨s0, s1, s2, s3, s4, s5⟩ := hSw; go_simp; try with_reducible rfl)
  try simp only [Act.put, List.setIfInBounds_toArray, List.set_cons_zero, List.set_cons_succ]
  refine Till.take 26 (v := ?_) rfl (by kernel_rfl) (by kernel_rfl) (by kernel_rfl) (by kernel_rfl) (fun _ _ _ h => h) (Or.inl ⟨by rfl, ?_⟩) hHeld ?_
  rotate_left
  · (intro w hSw; obtain ⟨s0, s1, s2, s3, s4, s5⟩ := hSw; go_simp; try with_reducible rfl)
  try simp only [Act.put, List.setIfInBounds_toArray, List.set_cons_zero, List.set_cons_succ]
  refine Till.take 27 (v := ?_) rfl (by kernel_rfl) (by kernel_rfl) (by kernel_rfl) (by kernel_rfl) (fun _ _ _ h => h) (Or.inl ⟨by rfl, ?_⟩) hHeld ?_
  rotate_left
  · (intro w hSw; obtain ⟨s0, s1, s2, s3, s4, s5⟩ := hSw; go_simp; try with_reducible rfl)
  try simp only [Act.put, List.setIfInBounds_toArray, List.set_cons_zero, List.set_cons_succ]
  refine Till.take 28 (v := ?_) rfl (by kernel_rfl) (by kernel_rfl) (by kernel_rfl) (by kernel_rfl) (fun _ _ _ h => h) (Or.inl ⟨by rfl, ?_⟩) hHeld ?_
  rotate_left
  · (intro w hSw; obtain ⟨s0, s1, s2, s3, s4, s5⟩ := hSw; go_simp; try with_reducible rfl)
  try simp only [Act.put, List.setIfInBounds_toArray, List.set_cons_zero, List.set_cons_succ]
  refine Till.one 2 (by kernel_rfl) rfl (fun K hK => ?_)
  go_simp
  go_at_call 25
  refine (config_Check.within x.f0 0 1 _).mono ?_
  rintro e w1 ⟨rfl, hb⟩
  have X1 := Aside0.mk (below_step X0.out hb)
  clear hb
  refine hK.out _ _ (config_Check.FS_of (blk_below BF0.out X1.out)) ?_
  clear hHeld hK K
  have hHeld : (config_Check.FS w.heap.size x A4 A5 A6 c4 c5 c6) w1 := (config_Check.FS_of (blk_below BF0.out X1.out))
  try simp only [Act.put, List.setIfInBounds_toArray, List.set_cons_zero, List.set_cons_succ]
  refine Till.one 3 (by kernel_rfl) rfl (fun K hK => ?_)
  go_simp
  go_at_call 24
  refine (config_Check.unless _ 1 _).mono ?_
  rintro e w2 ⟨v, rfl, ht, hb⟩
  obtain ⟨g0, lb0, rfl⟩ := ht.func
  have T0 := Aside0.mk ht
  clear ht
  have Y2 := Aside0.mk (Below.refl w2.heap.size w2)
  have X2 := Aside0.mk (below_step X1.out hb)
  clear hb
  refine hK.out _ _ (config_Check.FS_of (blk_below BF0.out X2.out)) ?_
  clear hHeld hK K
  have hHeld : (config_Check.FS w.heap.size x A4 A5 A6 c4 c5 c6) w2 := (config_Check.FS_of (blk_below BF0.out X2.out))
  try simp only [Act.put, List.setIfInBounds_toArray, List.set_cons_zero, List.set_cons_succ]
  refine Till.one 6 (by kernel_rfl) rfl (fun K hK => ?_)
  go_simp
  go_at_call 25
  refine (config_Check.within x.f1 1 1048576 _).mono ?_
  rintro e w3 ⟨rfl, hb⟩
  replace Y2 := Aside0.mk (below_step Y2.out hb)
  have X3 := Aside0.mk (below_step X2.out hb)
  clear hb
  refine hK.out _ _ (config_Check.FS_of (blk_below BF0.out X3.out)) ?_
  clear hHeld hK K
  have hHeld : (config_Check.FS w.heap.size x A4 A5 A6 c4 c5 c6) w3 := (config_Check.FS_of (blk_below BF0.out X3.out))
  try simp only [Act.put, List.setIfInBounds_toArray, List.set_cons_zero, List.set_cons_succ]
  refine Till.one 7 (by kernel_rfl) rfl (fun K hK => ?_)
  go_simp
  go_at_call 24
  refine (config_Check.unless _ 80 _).mono ?_
  rintro e w4 ⟨v, rfl, ht, hb⟩
  obtain ⟨g1, lb1, rfl⟩ := ht.func
  have T1 := Aside0.mk ht
  clear ht
  replace Y2 := Aside0.mk (below_step Y2.out hb)
  have Y4 := Aside0.mk (Below.refl w4.heap.size w4)
  have X4 := Aside0.mk (below_step X3.out hb)
  clear hb
  refine hK.out _ _ (config_Check.FS_of (blk_below BF0.out X4.out)) ?_
  clear hHeld hK K
  have hHeld : (config_Check.FS w.heap.size x A4 A5 A6 c4 c5 c6) w4 := (config_Check.FS_of (blk_below BF0.out X4.out))
  try simp only [Act.put, List.setIfInBounds_toArray, List.set_cons_zero, List.set_cons_succ]
  refine Till.one 10 (by kernel_rfl) rfl (fun K hK => ?_)
  go_simp
  go_at_call 25
  refine (config_Check.within x.f2 0 7 _).mono ?_
  rintro e w5 ⟨rfl, hb⟩
  replace Y2 := Aside0.mk (below_step Y2.out hb)
  replace Y4 := Aside0.mk (below_step Y4.out hb)
  have X5 := Aside0.mk (below_step X4.out hb)
  clear hb
  refine hK.out _ _ (config_Check.FS_of (blk_below BF0.out X5.out)) ?_
  clear hHeld hK K
  have hHeld : (config_Check.FS w.heap.size x A4 A5 A6 c4 c5 c6) w5 := (config_Check.FS_of (blk_below BF0.out X5.out))
  try simp only [Act.put, List.setIfInBounds_toArray, List.set_cons_zero, List.set_cons_succ]
  refine Till.one 11 (by kernel_rfl) rfl (fun K hK => ?_)
  go_simp
  go_at_call 24
  refine (config_Check.unless _ 70 _).mono ?_
  rintro e w6 ⟨v, rfl, ht, hb⟩
  obtain ⟨g2, lb2, rfl⟩ := ht.func
  have T2 := Aside0.mk ht
  clear ht
  replace Y2 := Aside0.mk (below_step Y2.out hb)
  replace Y4 := Aside0.mk (below_step Y4.out hb)
  have Y6 := Aside0.mk (Below.refl w6.heap.size w6)
  have X6 := Aside0.mk (below_step X5.out hb)
  clear hb
  refine hK.out _ _ (config_Check.FS_of (blk_below BF0.out X6.out)) ?_
  clear hHeld hK K
  have hHeld : (config_Check.FS w.heap.size x A4 A5 A6 c4 c5 c6) w6 := (config_Check.FS_of (blk_below BF0.out X6.out))
  try simp only [Act.put, List.setIfInBounds_toArray, List.set_cons_zero, List.set_cons_succ]
  cases h4 : config_Check.rising most (-1) x.f4 with
  | true =>
    rw [h4] at R4
    refine Till.one 16 (by kernel_rfl) rfl (fun K hK => ?_)
    go_simp
    go_at_fn 36
    refine (R4.out _ X6.out).mono ?_
    rintro e w7 ⟨rfl, hb⟩
    replace Y2 := Aside0.mk (below_step Y2.out hb)
    replace Y4 := Aside0.mk (below_step Y4.out hb)
    replace Y6 := Aside0.mk (below_step Y6.out hb)
    have X7 := Aside0.mk (below_step X6.out hb)
    clear hb
    refine hK.out _ _ (config_Check.FS_of (blk_below BF0.out X7.out)) ?_
    clear hHeld hK K
    have hHeld : (config_Check.FS w.heap.size x A4 A5 A6 c4 c5 c6) w7 := (config_Check.FS_of (blk_below BF0.out X7.out))
    try simp only [Act.put, List.setIfInBounds_toArray, List.set_cons_zero, List.set_cons_succ]
    refine Till.take 17 (v := ?_) rfl (by kernel_rfl) (by kernel_rfl) (by kernel_rfl) (by kernel_rfl) (fun _ _ _ h => h) (Or.inl ⟨by rfl, ?_⟩) hHeld ?_
    rotate_left
    · (intro w hSw; obtain ⟨s0, s1, s2, s3, s4, s5⟩ := hSw; go_simp; try with_reducible rfl)
    try simp only [Act.put, List.setIfInBounds_toArray, List.set_cons_zero, List.set_cons_succ]
    refine Till.take 18 (v := ?_) rfl (by kernel_rfl) (by kernel_rfl) (by kernel_rfl) (by kernel_rfl) (fun _ _ _ h => h) (Or.inl ⟨by rfl, ?_⟩) hHeld ?_
    rotate_left
    · (intro w hSw; obtain ⟨s0, s1, s2, s3, s4, s5⟩ := hSw; go_simp; try with_reducible rfl)
    try simp only [Act.put, List.setIfInBounds_toArray, List.set_cons_zero, List.set_cons_succ]
    refine Till.take 19 (v := ?_) rfl (by kernel_rfl) (by kernel_rfl) (by kernel_rfl) (by kernel_rfl) (fun _ _ _ h => h) (Or.inl ⟨by rfl, ?_⟩) hHeld ?_
    rotate_left
    · (intro w hSw; obtain ⟨s0, s1, s2, s3, s4, s5⟩ := hSw; go_simp; try with_reducible rfl)
    try simp only [Act.put, List.setIfInBounds_toArray, List.set_cons_zero, List.set_cons_succ]
    refine Till.take 20 (v := ?_) rfl (by kernel_rfl) (by kernel_rfl) (by kernel_rfl) (by kernel_rfl) (fun _ _ _ h => h) (Or.inl ⟨by rfl, ?_⟩) hHeld ?_
    rotate_left
    · (intro w hSw; obtain ⟨s0, s1, s2, s3, s4, s5⟩ := hSw; go_simp; try with_reducible rfl)
    try simp only [Act.put, List.setIfInBounds_toArray, List.set_cons_zero, List.set_cons_succ]
    refine Till.one 21 (by kernel_rfl) rfl (fun K hK => ?_)
    go_simp
    go_at_fn 36
    refine (R5.out _ X7.out).mono ?_
    rintro e w8 ⟨rfl, hb⟩
    replace Y2 := Aside0.mk (below_step Y2.out hb)
    replace Y4 := Aside0.mk (below_step Y4.out hb)
    replace Y6 := Aside0.mk (below_step Y6.out hb)
    have X8 := Aside0.mk (below_step X7.out hb)
    clear hb
    refine hK.out _ _ (config_Check.FS_of (blk_below BF0.out X8.out)) ?_
    clear hHeld hK K
    have hHeld : (config_Check.FS w.heap.size x A4 A5 A6 c4 c5 c6) w8 := (config_Check.FS_of (blk_below BF0.out X8.out))
    try simp only [Act.put, List.setIfInBounds_toArray, List.set_cons_zero, List.set_cons_succ]
    refine Till.take 22 (v := ?_) rfl (by kernel_rfl) (by kernel_rfl) (by kernel_rfl) (by kernel_rfl) (fun _ _ _ h => h) (Or.inl ⟨by rfl, ?_⟩) hHeld ?_
    rotate_left
    · (intro w hSw; obtain ⟨s0, s1, s2, s3, s4, s5⟩ := hSw; go_simp; try with_reducible rfl)
    try simp only [Act.put, List.setIfInBounds_toArray, List.set_cons_zero, List.set_cons_succ]
    refine Till.one 23 (by kernel_rfl) rfl (fun K hK => ?_)
    go_simp
    go_at_call 24
    refine (config_Check.unless _ 81 _).mono ?_
    rintro e w9 ⟨v, rfl, ht, hb⟩
    obtain ⟨g4, lb4, rfl⟩ := ht.func
    have T4 := Aside0.mk ht
    clear ht
    replace Y2 := Aside0.mk (below_step Y2.out hb)
    replace Y4 := Aside0.mk (below_step Y4.out hb)
    replace Y6 := Aside0.mk (below_step Y6.out hb)
    have Y9 := Aside0.mk (Below.refl w9.heap.size w9)
    have X9 := Aside0.mk (below_step X8.out hb)
    clear hb
    refine hK.out _ _ (config_Check.FS_of (blk_below BF0.out X9.out)) ?_
    clear hHeld hK K
    have hHeld : (config_Check.FS w.heap.size x A4 A5 A6 c4 c5 c6) w9 := (config_Check.FS_of (blk_below BF0.out X9.out))
    try simp only [Act.put, List.setIfInBounds_toArray, List.set_cons_zero, List.set_cons_succ]
    by_cases hl : x.f6.length ≤ 4
    · have HE : Aside0 (config_Check.firstE [config_Check.un (config_Check.wi x.f0 0 1) 1, config_Check.un (config_Check.wi x.f1 1 1048576) 80, config_Check.un (config_Check.wi x.f2 0 7) 70, config_Check.tableE x.f3, config_Check.un (config_Check.rising most (-1) x.f5) 81, config_Check.rulesE x.f4 x.f1 most x.f3, config_Check.un (!(x.f6.any (config_Check.odd x.f4))) 82] = config_Check.fedE x most) := ⟨by unfold config_Check.fedE; rw [h4]; simp [hl]⟩
      have hd1 : decide (((x.f6.length : Int)) ≤ 4) = true := decide_eq_true (by omega)
      have hd2 : decide (x.f6.length ≤ 4) = true := decide_eq_true (by omega)
      clear h4 hl
      first | rw [hd1] | rw [hd2]
      clear hd1 hd2
      refine Till.take 29 (v := ?_) rfl (by kernel_rfl) (by kernel_rfl) (by kernel_rfl) (by kernel_rfl) (fun _ _ _ h => h) (Or.inl ⟨by rfl, ?_⟩) hHeld ?_
      rotate_left
      · (intro w hSw; obtain ⟨s0, s1, s2, s3, s4, s5⟩ := hSw; go_simp; try with_reducible rfl)
      try simp only [Act.put, List.setIfInBounds_toArray, List.set_cons_zero, List.set_cons_succ]
      refine Till.take 30 (v := ?_) rfl (by kernel_rfl) (by kernel_rfl) (by kernel_rfl) (by kernel_rfl) (fun _ _ _ h => h) (Or.inl ⟨by rfl, ?_⟩) hHeld ?_
      rotate_left
      · (intro w hSw; obtain ⟨s0, s1, s2, s3, s4, s5⟩ := hSw; go_simp; try with_reducible rfl)
      try simp only [Act.put, List.setIfInBounds_toArray, List.set_cons_zero, List.set_cons_succ]
      refine Till.take 31 (v := ?_) rfl (by kernel_rfl) (by kernel_rfl) (by kernel_rfl) (by kernel_rfl) (fun _ _ _ h => h) (Or.inl ⟨by rfl, ?_⟩) hHeld ?_
      rotate_left
      · (intro w hSw; obtain ⟨s0, s1, s2, s3, s4, s5⟩ := hSw; go_simp; try with_reducible rfl)
      try simp only [Act.put, List.setIfInBounds_toArray, List.set_cons_zero, List.set_cons_succ]
      refine Till.take 32 (v := ?_) rfl (by kernel_rfl) (by kernel_rfl) (by kernel_rfl) (by kernel_rfl) (fun _ _ _ h => h) (Or.inl ⟨by rfl, ?_⟩) hHeld ?_
      rotate_left
      · (intro w hSw; obtain ⟨s0, s1, s2, s3, s4, s5⟩ := hSw; go_simp; try with_reducible rfl)
      try simp only [Act.put, List.setIfInBounds_toArray, List.set_cons_zero, List.set_cons_succ]
      refine Till.one 33 (by kernel_rfl) rfl (fun K hK => ?_)
      go_simp
      go_at_call 42
      refine (R6.out _ X9.out).mono ?_
      rintro e w10 ⟨rfl, hb⟩
      replace Y2 := Aside0.mk (below_step Y2.out hb)
      replace Y4 := Aside0.mk (below_step Y4.out hb)
      replace Y6 := Aside0.mk (below_step Y6.out hb)
      replace Y9 := Aside0.mk (below_step Y9.out hb)
      have X10 := Aside0.mk (below_step X9.out hb)
      clear hb
      refine hK.out _ _ (config_Check.FS_of (blk_below BF0.out X10.out)) ?_
      clear hHeld hK K
      have hHeld : (config_Check.FS w.heap.size x A4 A5 A6 c4 c5 c6) w10 := (config_Check.FS_of (blk_below BF0.out X10.out))
      try simp only [Act.put, List.setIfInBounds_toArray, List.set_cons_zero, List.set_cons_succ]
      refine Till.take 34 (v := ?_) rfl (by kernel_rfl) (by kernel_rfl) (by kernel_rfl) (by kernel_rfl) (fun _ _ _ h => h) (Or.inl ⟨by rfl, ?_⟩) hHeld ?_
      rotate_left
      · (intro w hSw; obtain ⟨s0, s1, s2, s3, s4, s5⟩ := hSw; go_simp; try with_reducible rfl)
      try simp only [Act.put, List.setIfInBounds_toArray, List.set_cons_zero, List.set_cons_succ]
      refine Till.take 35 (v := ?_) rfl (by kernel_rfl) (by kernel_rfl) (by kernel_rfl) (by kernel_rfl) (fun _ _ _ h => h) (Or.inl ⟨by rfl, ?_⟩) hHeld ?_
      rotate_left
      · (intro w hSw; obtain ⟨s0, s1, s2, s3, s4, s5⟩ := hSw; go_simp; try with_reducible rfl)
      try simp only [Act.put, List.setIfInBounds_toArray, List.set_cons_zero, List.set_cons_succ]
      refine Till.one 36 (by kernel_rfl) rfl (fun K hK => ?_)
      go_simp
      go_at_call 24
      refine (config_Check.unless _ 82 _).mono ?_
      rintro e w11 ⟨v, rfl, ht, hb⟩
      obtain ⟨g6, lb6, rfl⟩ := ht.func
      have T6 := Aside0.mk ht
      clear ht
      replace Y2 := Aside0.mk (below_step Y2.out hb)
      replace Y4 := Aside0.mk (below_step Y4.out hb)
      replace Y6 := Aside0.mk (below_step Y6.out hb)
      replace Y9 := Aside0.mk (below_step Y9.out hb)
      have Y11 := Aside0.mk (Below.refl w11.heap.size w11)
      have X11 := Aside0.mk (below_step X10.out hb)
      clear hb
      refine hK.out _ _ (config_Check.FS_of (blk_below BF0.out X11.out)) ?_
      clear hHeld hK K
      have hHeld : (config_Check.FS w.heap.size x A4 A5 A6 c4 c5 c6) w11 := (config_Check.FS_of (blk_below BF0.out X11.out))
      try simp only [Act.put, List.setIfInBounds_toArray, List.set_cons_zero, List.set_cons_succ]
      have BV := Aside0.mk (blk_new w11 (.cells #[.func (.func g0) #[] lb0, .func (.func g1) #[] lb1, .func (.func g2) #[] lb2, .func (.func 40) #[] #[.pointer (some ⟨w.heap.size, 0, none⟩)], .func (.func g4) #[] lb4, .func (.func 37) #[] #[.pointer (some ⟨w.heap.size, 0, none⟩), .pointer (some ⟨w.heap.size + 1, 0, none⟩)], .func (.func g6) #[] lb6] 59 (0, 0)))
      have X12 := Aside0.mk (below_alloc X11.out (.cells #[.func (.func g0) #[] lb0, .func (.func g1) #[] lb1, .func (.func g2) #[] lb2, .func (.func 40) #[] #[.pointer (some ⟨w.heap.size, 0, none⟩)], .func (.func g4) #[] lb4, .func (.func 37) #[] #[.pointer (some ⟨w.heap.size, 0, none⟩), .pointer (some ⟨w.heap.size + 1, 0, none⟩)], .func (.func g6) #[] lb6] 59 (0, 0)))
      have XW := Aside0.mk (below_alloc (Below.refl _ w11) (.cells #[.func (.func g0) #[] lb0, .func (.func g1) #[] lb1, .func (.func g2) #[] lb2, .func (.func 40) #[] #[.pointer (some ⟨w.heap.size, 0, none⟩)], .func (.func g4) #[] lb4, .func (.func 37) #[] #[.pointer (some ⟨w.heap.size, 0, none⟩), .pointer (some ⟨w.heap.size + 1, 0, none⟩)], .func (.func g6) #[] lb6] 59 (0, 0)))
      refine Till.one 37 (by kernel_rfl) rfl (fun K hK => ?_)
      go_simp
      refine hK.out _ _ (config_Check.FS_of (blk_below BF0.out X12.out)) ?_
      clear hHeld hK K
      have hHeld : (config_Check.FS w.heap.size x A4 A5 A6 c4 c5 c6) (w11.alloc (.cells #[.func (.func g0) #[] lb0, .func (.func g1) #[] lb1, .func (.func g2) #[] lb2, .func (.func 40) #[] #[.pointer (some ⟨w.heap.size, 0, none⟩)], .func (.func g4) #[] lb4, .func (.func 37) #[] #[.pointer (some ⟨w.heap.size, 0, none⟩), .pointer (some ⟨w.heap.size + 1, 0, none⟩)], .func (.func g6) #[] lb6] 59 (0, 0))) := (config_Check.FS_of (blk_below BF0.out X12.out))
      try simp only [Act.put, List.setIfInBounds_toArray, List.set_cons_zero, List.set_cons_succ]
      refine Till.one 38 (by kernel_rfl) rfl (fun K hK => ?_)
      go_simp
      go_at_call 21
      refine (config_Check.first_eq #[.func (.func g0) #[] lb0, .func (.func g1) #[] lb1, .func (.func g2) #[] lb2, .func (.func 40) #[] #[.pointer (some ⟨w.heap.size, 0, none⟩)], .func (.func g4) #[] lb4, .func (.func 37) #[] #[.pointer (some ⟨w.heap.size, 0, none⟩), .pointer (some ⟨w.heap.size + 1, 0, none⟩)], .func (.func g6) #[] lb6].toList [config_Check.un (config_Check.wi x.f0 0 1) 1, config_Check.un (config_Check.wi x.f1 1 1048576) 80, config_Check.un (config_Check.wi x.f2 0 7) 70, config_Check.tableE x.f3, config_Check.un (config_Check.rising most (-1) x.f5) 81, config_Check.rulesE x.f4 x.f1 most x.f3, config_Check.un (!(x.f6.any (config_Check.odd x.f4))) 82] ⟨w11.heap.size, 0, none⟩ 7 7 _ (config_Check.fedE x most) rfl rfl (by omega) (config_Check.cells_of BV.out) (config_Check.try7 (T0.out.below (below_step Y2.out XW.out)) (T1.out.below (below_step Y4.out XW.out)) (T2.out.below (below_step Y6.out XW.out)) (T3.out.below X12.out) (T4.out.below (below_step Y9.out XW.out)) (T5.out.below X12.out) (T6.out.below (below_step Y11.out XW.out))) HE.out).mono ?_
      rintro e wz ⟨rfl, hb⟩
      have XZ := Aside0.mk (below_step X12.out hb)
      clear hb
      refine hK.out _ _ (config_Check.FS_of (blk_below BF0.out XZ.out)) ?_
      clear hHeld hK K
      have hHeld : (config_Check.FS w.heap.size x A4 A5 A6 c4 c5 c6) wz := (config_Check.FS_of (blk_below BF0.out XZ.out))
      try simp only [Act.put, List.setIfInBounds_toArray, List.set_cons_zero, List.set_cons_succ]
      refine Till.take 39 (v := ?_) rfl (by kernel_rfl) (by kernel_rfl) (by kernel_rfl) (by kernel_rfl) (fun _ _ _ h => h) (Or.inl ⟨by rfl, ?_⟩) hHeld ?_
      rotate_left
      · (intro w hSw; obtain ⟨s0, s1, s2, s3, s4, s5⟩ := hSw; go_simp; try with_reducible rfl)
      try simp only [Act.put, List.setIfInBounds_toArray, List.set_cons_zero, List.set_cons_succ]
      refine Till.done (by kernel_rfl) ?_
      clear hHeld
      go_wp2
      go_ret
      exact ⟨rfl, below_step BW0.out XZ.out⟩
    · have HE : Aside0 (config_Check.firstE [config_Check.un (config_Check.wi x.f0 0 1) 1, config_Check.un (config_Check.wi x.f1 1 1048576) 80, config_Check.un (config_Check.wi x.f2 0 7) 70, config_Check.tableE x.f3, config_Check.un (config_Check.rising most (-1) x.f5) 81, config_Check.rulesE x.f4 x.f1 most x.f3, config_Check.un false 82] = config_Check.fedE x most) := ⟨by unfold config_Check.fedE; rw [h4]; simp [hl]⟩
      have hd1 : decide (((x.f6.length : Int)) ≤ 4) = false := decide_eq_false (by omega)
      have hd2 : decide (x.f6.length ≤ 4) = false := decide_eq_false (by omega)
      clear h4 hl
      first | rw [hd1] | rw [hd2]
      clear hd1 hd2
      refine Till.take 29 (v := ?_) rfl (by kernel_rfl) (by kernel_rfl) (by kernel_rfl) (by kernel_rfl) (fun _ _ _ h => h) (Or.inl ⟨by rfl, ?_⟩) hHeld ?_
      rotate_left
      · (intro w hSw; obtain ⟨s0, s1, s2, s3, s4, s5⟩ := hSw; go_simp; try with_reducible rfl)
      try simp only [Act.put, List.setIfInBounds_toArray, List.set_cons_zero, List.set_cons_succ]
      refine Till.take 30 (v := undef) rfl (by kernel_rfl) (by kernel_rfl) (by kernel_rfl) (by kernel_rfl) (fun _ _ _ h => h) (Or.inr ⟨by rfl, rfl⟩) hHeld ?_
      try simp only [Act.put, List.setIfInBounds_toArray, List.set_cons_zero, List.set_cons_succ]
      refine Till.take 31 (v := undef) rfl (by kernel_rfl) (by kernel_rfl) (by kernel_rfl) (by kernel_rfl) (fun _ _ _ h => h) (Or.inr ⟨by rfl, rfl⟩) hHeld ?_
      try simp only [Act.put, List.setIfInBounds_toArray, List.set_cons_zero, List.set_cons_succ]
      refine Till.take 32 (v := undef) rfl (by kernel_rfl) (by kernel_rfl) (by kernel_rfl) (by kernel_rfl) (fun _ _ _ h => h) (Or.inr ⟨by rfl, rfl⟩) hHeld ?_
      try simp only [Act.put, List.setIfInBounds_toArray, List.set_cons_zero, List.set_cons_succ]
      refine Till.take 33 (v := undef) rfl (by kernel_rfl) (by kernel_rfl) (by kernel_rfl) (by kernel_rfl) (fun _ _ _ h => h) (Or.inr ⟨by rfl, rfl⟩) hHeld ?_
      try simp only [Act.put, List.setIfInBounds_toArray, List.set_cons_zero, List.set_cons_succ]
      refine Till.take 34 (v := undef) rfl (by kernel_rfl) (by kernel_rfl) (by kernel_rfl) (by kernel_rfl) (fun _ _ _ h => h) (Or.inr ⟨by rfl, rfl⟩) hHeld ?_
      try simp only [Act.put, List.setIfInBounds_toArray, List.set_cons_zero, List.set_cons_succ]
      refine Till.take 35 (v := ?_) rfl (by kernel_rfl) (by kernel_rfl) (by kernel_rfl) (by kernel_rfl) (fun _ _ _ h => h) (Or.inl ⟨by rfl, ?_⟩) hHeld ?_
      rotate_left
      · (intro w hSw; obtain ⟨s0, s1, s2, s3, s4, s5⟩ := hSw; go_simp; try with_reducible rfl)
      try simp only [Act.put, List.setIfInBounds_toArray, List.set_cons_zero, List.set_cons_succ]
      refine Till.one 36 (by kernel_rfl) rfl (fun K hK => ?_)
      go_simp
      go_at_call 24
      refine (config_Check.unless _ 82 _).mono ?_
      rintro e w10 ⟨v, rfl, ht, hb⟩
      obtain ⟨g6, lb6, rfl⟩ := ht.func
      have T6 := Aside0.mk ht
      clear ht
      replace Y2 := Aside0.mk (below_step Y2.out hb)
      replace Y4 := Aside0.mk (below_step Y4.out hb)
      replace Y6 := Aside0.mk (below_step Y6.out hb)
      replace Y9 := Aside0.mk (below_step Y9.out hb)
      have Y10 := Aside0.mk (Below.refl w10.heap.size w10)
      have X10 := Aside0.mk (below_step X9.out hb)
      clear hb
      refine hK.out _ _ (config_Check.FS_of (blk_below BF0.out X10.out)) ?_
      clear hHeld hK K
      have hHeld : (config_Check.FS w.heap.size x A4 A5 A6 c4 c5 c6) w10 := (config_Check.FS_of (blk_below BF0.out X10.out))
      try simp only [Act.put, List.setIfInBounds_toArray, List.set_cons_zero, List.set_cons_succ]
      have BV := Aside0.mk (blk_new w10 (.cells #[.func (.func g0) #[] lb0, .func (.func g1) #[] lb1, .func (.func g2) #[] lb2, .func (.func 40) #[] #[.pointer (some ⟨w.heap.size, 0, none⟩)], .func (.func g4) #[] lb4, .func (.func 37) #[] #[.pointer (some ⟨w.heap.size, 0, none⟩), .pointer (some ⟨w.heap.size + 1, 0, none⟩)], .func (.func g6) #[] lb6] 59 (0, 0)))
      have X11 := Aside0.mk (below_alloc X10.out (.cells #[.func (.func g0) #[] lb0, .func (.func g1) #[] lb1, .func (.func g2) #[] lb2, .func (.func 40) #[] #[.pointer (some ⟨w.heap.size, 0, none⟩)], .func (.func g4) #[] lb4, .func (.func 37) #[] #[.pointer (some ⟨w.heap.size, 0, none⟩), .pointer (some ⟨w.heap.size + 1, 0, none⟩)], .func (.func g6) #[] lb6] 59 (0, 0)))
      have XW := Aside0.mk (below_alloc (Below.refl _ w10) (.cells #[.func (.func g0) #[] lb0, .func (.func g1) #[] lb1, .func (.func g2) #[] lb2, .func (.func 40) #[] #[.pointer (some ⟨w.heap.size, 0, none⟩)], .func (.func g4) #[] lb4, .func (.func 37) #[] #[.pointer (some ⟨w.heap.size, 0, none⟩), .pointer (some ⟨w.heap.size + 1, 0, none⟩)], .func (.func g6) #[] lb6] 59 (0, 0)))
      refine Till.one 37 (by kernel_rfl) rfl (fun K hK => ?_)
      go_simp
      refine hK.out _ _ (config_Check.FS_of (blk_below BF0.out X11.out)) ?_
      clear hHeld hK K
      have hHeld : (config_Check.FS w.heap.size x A4 A5 A6 c4 c5 c6) (w10.alloc (.cells #[.func (.func g0) #[] lb0, .func (.func g1) #[] lb1, .func (.func g2) #[] lb2, .func (.func 40) #[] #[.pointer (some ⟨w.heap.size, 0, none⟩)], .func (.func g4) #[] lb4, .func (.func 37) #[] #[.pointer (some ⟨w.heap.size, 0, none⟩), .pointer (some ⟨w.heap.size + 1, 0, none⟩)], .func (.func g6) #[] lb6] 59 (0, 0))) := (config_Check.FS_of (blk_below BF0.out X11.out))
      try simp only [Act.put, List.setIfInBounds_toArray, List.set_cons_zero, List.set_cons_succ]
      refine Till.one 38 (by kernel_rfl) rfl (fun K hK => ?_)
      go_simp
      go_at_call 21
      refine (config_Check.first_eq #[.func (.func g0) #[] lb0, .func (.func g1) #[] lb1, .func (.func g2) #[] lb2, .func (.func 40) #[] #[.pointer (some ⟨w.heap.size, 0, none⟩)], .func (.func g4) #[] lb4, .func (.func 37) #[] #[.pointer (some ⟨w.heap.size, 0, none⟩), .pointer (some ⟨w.heap.size + 1, 0, none⟩)], .func (.func g6) #[] lb6].toList [config_Check.un (config_Check.wi x.f0 0 1) 1, config_Check.un (config_Check.wi x.f1 1 1048576) 80, config_Check.un (config_Check.wi x.f2 0 7) 70, config_Check.tableE x.f3, config_Check.un (config_Check.rising most (-1) x.f5) 81, config_Check.rulesE x.f4 x.f1 most x.f3, config_Check.un false 82] ⟨w10.heap.size, 0, none⟩ 7 7 _ (config_Check.fedE x most) rfl rfl (by omega) (config_Check.cells_of BV.out) (config_Check.try7 (T0.out.below (below_step Y2.out XW.out)) (T1.out.below (below_step Y4.out XW.out)) (T2.out.below (below_step Y6.out XW.out)) (T3.out.below X11.out) (T4.out.below (below_step Y9.out XW.out)) (T5.out.below X11.out) (T6.out.below (below_step Y10.out XW.out))) HE.out).mono ?_
      rintro e wz ⟨rfl, hb⟩
      have XZ := Aside0.mk (below_step X11.out hb)
      clear hb
      refine hK.out _ _ (config_Check.FS_of (blk_below BF0.out XZ.out)) ?_
      clear hHeld hK K
      have hHeld : (config_Check.FS w.heap.size x A4 A5 A6 c4 c5 c6) wz := (config_Check.FS_of (blk_below BF0.out XZ.out))
      try simp only [Act.put, List.setIfInBounds_toArray, List.set_cons_zero, List.set_cons_succ]
      refine Till.take 39 (v := ?_) rfl (by kernel_rfl) (by kernel_rfl) (by kernel_rfl) (by kernel_rfl) (fun _ _ _ h => h) (Or.inl ⟨by rfl, ?_⟩) hHeld ?_
      rotate_left
      · (intro w hSw; obtain ⟨s0, s1, s2, s3, s4, s5⟩ := hSw; go_simp; try with_reducible rfl)
      try simp only [Act.put, List.setIfInBounds_toArray, List.set_cons_zero, List.set_cons_succ]
      refine Till.done (by kernel_rfl) ?_
      clear hHeld
      go_wp2
      go_ret
      exact ⟨rfl, below_step BW0.out XZ.out⟩
  | false =>
    rw [h4] at R4
    refine Till.one 16 (by kernel_rfl) rfl (fun K hK => ?_)
    go_simp
    go_at_fn 36
    refine (R4.out _ X6.out).mono ?_
    rintro e w7 ⟨rfl, hb⟩
    replace Y2 := Aside0.mk (below_step Y2.out hb)
    replace Y4 := Aside0.mk (below_step Y4.out hb)
    replace Y6 := Aside0.mk (below_step Y6.out hb)
    have X7 := Aside0.mk (below_step X6.out hb)
    clear hb
    refine hK.out _ _ (config_Check.FS_of (blk_below BF0.out X7.out)) ?_
    clear hHeld hK K
    have hHeld : (config_Check.FS w.heap.size x A4 A5 A6 c4 c5 c6) w7 := (config_Check.FS_of (blk_below BF0.out X7.out))
    try simp only [Act.put, List.setIfInBounds_toArray, List.set_cons_zero, List.set_cons_succ]
    refine Till.take 17 (v := ?_) rfl (by kernel_rfl) (by kernel_rfl) (by kernel_rfl) (by kernel_rfl) (fun _ _ _ h => h) (Or.inl ⟨by rfl, ?_⟩) hHeld ?_
    rotate_left
    · (intro w hSw; obtain ⟨s0, s1, s2, s3, s4, s5⟩ := hSw; go_simp; try with_reducible rfl)
    try simp only [Act.put, List.setIfInBounds_toArray, List.set_cons_zero, List.set_cons_succ]
    refine Till.take 18 (v := undef) rfl (by kernel_rfl) (by kernel_rfl) (by kernel_rfl) (by kernel_rfl) (fun _ _ _ h => h) (Or.inr ⟨by rfl, rfl⟩) hHeld ?_
    try simp only [Act.put, List.setIfInBounds_toArray, List.set_cons_zero, List.set_cons_succ]
    refine Till.take 19 (v := undef) rfl (by kernel_rfl) (by kernel_rfl) (by kernel_rfl) (by kernel_rfl) (fun _ _ _ h => h) (Or.inr ⟨by rfl, rfl⟩) hHeld ?_
    try simp only [Act.put, List.setIfInBounds_toArray, List.set_cons_zero, List.set_cons_succ]
    refine Till.take 20 (v := undef) rfl (by kernel_rfl) (by kernel_rfl) (by kernel_rfl) (by kernel_rfl) (fun _ _ _ h => h) (Or.inr ⟨by rfl, rfl⟩) hHeld ?_
    try simp only [Act.put, List.setIfInBounds_toArray, List.set_cons_zero, List.set_cons_succ]
    refine Till.take 21 (v := undef) rfl (by kernel_rfl) (by kernel_rfl) (by kernel_rfl) (by kernel_rfl) (fun _ _ _ h => h) (Or.inr ⟨by rfl, rfl⟩) hHeld ?_
    try simp only [Act.put, List.setIfInBounds_toArray, List.set_cons_zero, List.set_cons_succ]
    refine Till.take 22 (v := ?_) rfl (by kernel_rfl) (by kernel_rfl) (by kernel_rfl) (by kernel_rfl) (fun _ _ _ h => h) (Or.inl ⟨by rfl, ?_⟩) hHeld ?_
    rotate_left
    · (intro w hSw; obtain ⟨s0, s1, s2, s3, s4, s5⟩ := hSw; go_simp; try with_reducible rfl)
    try simp only [Act.put, List.setIfInBounds_toArray, List.set_cons_zero, List.set_cons_succ]
    refine Till.one 23 (by kernel_rfl) rfl (fun K hK => ?_)
    go_simp
    go_at_call 24
    refine (config_Check.unless _ 81 _).mono ?_
    rintro e w8 ⟨v, rfl, ht, hb⟩
    obtain ⟨g4, lb4, rfl⟩ := ht.func
    have T4 := Aside0.mk ht
    clear ht
    replace Y2 := Aside0.mk (below_step Y2.out hb)
    replace Y4 := Aside0.mk (below_step Y4.out hb)
    replace Y6 := Aside0.mk (below_step Y6.out hb)
    have Y8 := Aside0.mk (Below.refl w8.heap.size w8)
    have X8 := Aside0.mk (below_step X7.out hb)
    clear hb
    refine hK.out _ _ (config_Check.FS_of (blk_below BF0.out X8.out)) ?_
    clear hHeld hK K
    have hHeld : (config_Check.FS w.heap.size x A4 A5 A6 c4 c5 c6) w8 := (config_Check.FS_of (blk_below BF0.out X8.out))
    try simp only [Act.put, List.setIfInBounds_toArray, List.set_cons_zero, List.set_cons_succ]
    by_cases hl : x.f6.length ≤ 4
    · have HE : Aside0 (config_Check.firstE [config_Check.un (config_Check.wi x.f0 0 1) 1, config_Check.un (config_Check.wi x.f1 1 1048576) 80, config_Check.un (config_Check.wi x.f2 0 7) 70, config_Check.tableE x.f3, config_Check.un false 81, config_Check.rulesE x.f4 x.f1 most x.f3, config_Check.un (!(x.f6.any (config_Check.odd x.f4))) 82] = config_Check.fedE x most) := ⟨by unfold config_Check.fedE; rw [h4]; simp [hl]⟩
      have hd1 : decide (((x.f6.length : Int)) ≤ 4) = true := decide_eq_true (by omega)
      have hd2 : decide (x.f6.length ≤ 4) = true := decide_eq_true (by omega)
      clear h4 hl
      first | rw [hd1] | rw [hd2]
      clear hd1 hd2
      refine Till.take 29 (v := ?_) rfl (by kernel_rfl) (by kernel_rfl) (by kernel_rfl) (by kernel_rfl) (fun _ _ _ h => h) (Or.inl ⟨by rfl, ?_⟩) hHeld ?_
      rotate_left
      · (intro w hSw; obtain ⟨s0, s1, s2, s3, s4, s5⟩ := hSw; go_simp; try with_reducible rfl)
      try simp only [Act.put, List.setIfInBounds_toArray, List.set_cons_zero, List.set_cons_succ]
      refine Till.take 30 (v := ?_) rfl (by kernel_rfl) (by kernel_rfl) (by kernel_rfl) (by kernel_rfl) (fun _ _ _ h => h) (Or.inl ⟨by rfl, ?_⟩) hHeld ?_
      rotate_left
      · (intro w hSw; obtain ⟨s0, s1, s2, s3, s4, s5⟩ := hSw; go_simp; try with_reducible rfl)
      try simp only [Act.put, List.setIfInBounds_toArray, List.set_cons_zero, List.set_cons_succ]
      refine Till.take 31 (v := ?_) rfl (by kernel_rfl) (by kernel_rfl) (by kernel_rfl) (by kernel_rfl) (fun _ _ _ h => h) (Or.inl ⟨by rfl, ?_⟩) hHeld ?_
      rotate_left
      · (intro w hSw; obtain ⟨s0, s1, s2, s3, s4, s5⟩ := hSw; go_simp; try with_reducible rfl)
      try simp only [Act.put, List.setIfInBounds_toArray, List.set_cons_zero, List.set_cons_succ]
      refine Till.take 32 (v := ?_) rfl (by kernel_rfl) (by kernel_rfl) (by kernel_rfl) (by kernel_rfl) (fun _ _ _ h => h) (Or.inl ⟨by rfl, ?_⟩) hHeld ?_
      rotate_left
      · (intro w hSw; obtain ⟨s0, s1, s2, s3, s4, s5⟩ := hSw; go_simp; try with_reducible rfl)
      try simp only [Act.put, List.setIfInBounds_toArray, List.set_cons_zero, List.set_cons_succ]
      refine Till.one 33 (by kernel_rfl) rfl (fun K hK => ?_)
      go_simp
      go_at_call 42
      refine (R6.out _ X8.out).mono ?_
      rintro e w9 ⟨rfl, hb⟩
      replace Y2 := Aside0.mk (below_step Y2.out hb)
      replace Y4 := Aside0.mk (below_step Y4.out hb)
      replace Y6 := Aside0.mk (below_step Y6.out hb)
      replace Y8 := Aside0.mk (below_step Y8.out hb)
      have X9 := Aside0.mk (below_step X8.out hb)
      clear hb
      refine hK.out _ _ (config_Check.FS_of (blk_below BF0.out X9.out)) ?_
      clear hHeld hK K
      have hHeld : (config_Check.FS w.heap.size x A4 A5 A6 c4 c5 c6) w9 := (config_Check.FS_of (blk_below BF0.out X9.out))
      try simp only [Act.put, List.setIfInBounds_toArray, List.set_cons_zero, List.set_cons_succ]
      refine Till.take 34 (v := ?_) rfl (by kernel_rfl) (by kernel_rfl) (by kernel_rfl) (by kernel_rfl) (fun _ _ _ h => h) (Or.inl ⟨by rfl, ?_⟩) hHeld ?_
      rotate_left
      · (intro w hSw; obtain ⟨s0, s1, s2, s3, s4, s5⟩ := hSw; go_simp; try with_reducible rfl)
      try simp only [Act.put, List.setIfInBounds_toArray, List.set_cons_zero, List.set_cons_succ]
      refine Till.take 35 (v := ?_) rfl (by kernel_rfl) (by kernel_rfl) (by kernel_rfl) (by kernel_rfl) (fun _ _ _ h => h) (Or.inl ⟨by rfl, ?_⟩) hHeld ?_
      rotate_left
      · (intro w hSw; obtain ⟨s0, s1, s2, s3, s4, s5⟩ := hSw; go_simp; try with_reducible rfl)
      try simp only [Act.put, List.setIfInBounds_toArray, List.set_cons_zero, List.set_cons_succ]
      refine Till.one 36 (by kernel_rfl) rfl (fun K hK => ?_)
      go_simp
      go_at_call 24
      refine (config_Check.unless _ 82 _).mono ?_
      rintro e w10 ⟨v, rfl, ht, hb⟩
      obtain ⟨g6, lb6, rfl⟩ := ht.func
      have T6 := Aside0.mk ht
      clear ht
      replace Y2 := Aside0.mk (below_step Y2.out hb)
      replace Y4 := Aside0.mk (below_step Y4.out hb)
      replace Y6 := Aside0.mk (below_step Y6.out hb)
      replace Y8 := Aside0.mk (below_step Y8.out hb)
      have Y10 := Aside0.mk (Below.refl w10.heap.size w10)
      have X10 := Aside0.mk (below_step X9.out hb)
      clear hb
      refine hK.out _ _ (config_Check.FS_of (blk_below BF0.out X10.out)) ?_
      clear hHeld hK K
      have hHeld : (config_Check.FS w.heap.size x A4 A5 A6 c4 c5 c6) w10 := (config_Check.FS_of (blk_below BF0.out X10.out))
      try simp only [Act.put, List.setIfInBounds_toArray, List.set_cons_zero, List.set_cons_succ]
      have BV := Aside0.mk (blk_new w10 (.cells #[.func (.func g0) #[] lb0, .func (.func g1) #[] lb1, .func (.func g2) #[] lb2, .func (.func 40) #[] #[.pointer (some ⟨w.heap.size, 0, none⟩)], .func (.func g4) #[] lb4, .func (.func 37) #[] #[.pointer (some ⟨w.heap.size, 0, none⟩), .pointer (some ⟨w.heap.size + 1, 0, none⟩)], .func (.func g6) #[] lb6] 59 (0, 0)))
      have X11 := Aside0.mk (below_alloc X10.out (.cells #[.func (.func g0) #[] lb0, .func (.func g1) #[] lb1, .func (.func g2) #[] lb2, .func (.func 40) #[] #[.pointer (some ⟨w.heap.size, 0, none⟩)], .func (.func g4) #[] lb4, .func (.func 37) #[] #[.pointer (some ⟨w.heap.size, 0, none⟩), .pointer (some ⟨w.heap.size + 1, 0, none⟩)], .func (.func g6) #[] lb6] 59 (0, 0)))
      have XW := Aside0.mk (below_alloc (Below.refl _ w10) (.cells #[.func (.func g0) #[] lb0, .func (.func g1) #[] lb1, .func (.func g2) #[] lb2, .func (.func 40) #[] #[.pointer (some ⟨w.heap.size, 0, none⟩)], .func (.func g4) #[] lb4, .func (.func 37) #[] #[.pointer (some ⟨w.heap.size, 0, none⟩), .pointer (some ⟨w.heap.size + 1, 0, none⟩)], .func (.func g6) #[] lb6] 59 (0, 0)))
      refine Till.one 37 (by kernel_rfl) rfl (fun K hK => ?_)
      go_simp
      refine hK.out _ _ (config_Check.FS_of (blk_below BF0.out X11.out)) ?_
      clear hHeld hK K
      have hHeld : (config_Check.FS w.heap.size x A4 A5 A6 c4 c5 c6) (w10.alloc (.cells #[.func (.func g0) #[] lb0, .func (.func g1) #[] lb1, .func (.func g2) #[] lb2, .func (.func 40) #[] #[.pointer (some ⟨w.heap.size, 0, none⟩)], .func (.func g4) #[] lb4, .func (.func 37) #[] #[.pointer (some ⟨w.heap.size, 0, none⟩), .pointer (some ⟨w.heap.size + 1, 0, none⟩)], .func (.func g6) #[] lb6] 59 (0, 0))) := (config_Check.FS_of (blk_below BF0.out X11.out))
      try simp only [Act.put, List.setIfInBounds_toArray, List.set_cons_zero, List.set_cons_succ]
      refine Till.one 38 (by kernel_rfl) rfl (fun K hK => ?_)
      go_simp
      go_at_call 21
      refine (config_Check.first_eq #[.func (.func g0) #[] lb0, .func (.func g1) #[] lb1, .func (.func g2) #[] lb2, .func (.func 40) #[] #[.pointer (some ⟨w.heap.size, 0, none⟩)], .func (.func g4) #[] lb4, .func (.func 37) #[] #[.pointer (some ⟨w.heap.size, 0, none⟩), .pointer (some ⟨w.heap.size + 1, 0, none⟩)], .func (.func g6) #[] lb6].toList [config_Check.un (config_Check.wi x.f0 0 1) 1, config_Check.un (config_Check.wi x.f1 1 1048576) 80, config_Check.un (config_Check.wi x.f2 0 7) 70, config_Check.tableE x.f3, config_Check.un false 81, config_Check.rulesE x.f4 x.f1 most x.f3, config_Check.un (!(x.f6.any (config_Check.odd x.f4))) 82] ⟨w10.heap.size, 0, none⟩ 7 7 _ (config_Check.fedE x most) rfl rfl (by omega) (config_Check.cells_of BV.out) (config_Check.try7 (T0.out.below (below_step Y2.out XW.out)) (T1.out.below (below_step Y4.out XW.out)) (T2.out.below (below_step Y6.out XW.out)) (T3.out.below X11.out) (T4.out.below (below_step Y8.out XW.out)) (T5.out.below X11.out) (T6.out.below (below_step Y10.out XW.out))) HE.out).mono ?_
      rintro e wz ⟨rfl, hb⟩
      have XZ := Aside0.mk (below_step X11.out hb)
      clear hb
      refine hK.out _ _ (config_Check.FS_of (blk_below BF0.out XZ.out)) ?_
      clear hHeld hK K
      have hHeld : (config_Check.FS w.heap.size x A4 A5 A6 c4 c5 c6) wz := (config_Check.FS_of (blk_below BF0.out XZ.out))
      try simp only [Act.put, List.setIfInBounds_toArray, List.set_cons_zero, List.set_cons_succ]
      refine Till.take 39 (v := ?_) rfl (by kernel_rfl) (by kernel_rfl) (by kernel_rfl) (by kernel_rfl) (fun _ _ _ h => h) (Or.inl ⟨by rfl, ?_⟩) hHeld ?_
      rotate_left
      · (intro w hSw; obtain ⟨s0, s1, s2, s3, s4, s5⟩ := hSw; go_simp; try with_reducible rfl)
      try simp only [Act.put, List.setIfInBounds_toArray, List.set_cons_zero, List.set_cons_succ]
      refine Till.done (by kernel_rfl) ?_
      clear hHeld
      go_wp2
      go_ret
      exact ⟨rfl, below_step BW0.out XZ.out⟩
    · have HE : Aside0 (config_Check.firstE [config_Check.un (config_Check.wi x.f0 0 1) 1, config_Check.un (config_Check.wi x.f1 1 1048576) 80, config_Check.un (config_Check.wi x.f2 0 7) 70, config_Check.tableE x.f3, config_Check.un false 81, config_Check.rulesE x.f4 x.f1 most x.f3, config_Check.un false 82] = config_Check.fedE x most) := ⟨by unfold config_Check.fedE; rw [h4]; simp [hl]⟩
      have hd1 : decide (((x.f6.length : Int)) ≤ 4) = false := decide_eq_false (by omega)
      have hd2 : decide (x.f6.length ≤ 4) = false := decide_eq_false (by omega)
      clear h4 hl
      first | rw [hd1] | rw [hd2]
      clear hd1 hd2
      refine Till.take 29 (v := ?_) rfl (by kernel_rfl) (by kernel_rfl) (by kernel_rfl) (by kernel_rfl) (fun _ _ _ h => h) (Or.inl ⟨by rfl, ?_⟩) hHeld ?_
      rotate_left
      · (intro w hSw; obtain ⟨s0, s1, s2, s3, s4, s5⟩ := hSw; go_simp; try with_reducible rfl)
      try simp only [Act.put, List.setIfInBounds_toArray, List.set_cons_zero, List.set_cons_succ]
      refine Till.take 30 (v := undef) rfl (by kernel_rfl) (by kernel_rfl) (by kernel_rfl) (by kernel_rfl) (fun _ _ _ h => h) (Or.inr ⟨by rfl, rfl⟩) hHeld ?_
      try simp only [Act.put, List.setIfInBounds_toArray, List.set_cons_zero, List.set_cons_succ]
      refine Till.take 31 (v := undef) rfl (by kernel_rfl) (by kernel_rfl) (by kernel_rfl) (by kernel_rfl) (fun _ _ _ h => h) (Or.inr ⟨by rfl, rfl⟩) hHeld ?_
      try simp only [Act.put, List.setIfInBounds_toArray, List.set_cons_zero, List.set_cons_succ]
      refine Till.take 32 (v := undef) rfl (by kernel_rfl) (by kernel_rfl) (by kernel_rfl) (by kernel_rfl) (fun _ _ _ h => h) (Or.inr ⟨by rfl, rfl⟩) hHeld ?_
      try simp only [Act.put, List.setIfInBounds_toArray, List.set_cons_zero, List.set_cons_succ]
      refine Till.take 33 (v := undef) rfl (by kernel_rfl) (by kernel_rfl) (by kernel_rfl) (by kernel_rfl) (fun _ _ _ h => h) (Or.inr ⟨by rfl, rfl⟩) hHeld ?_
      try simp only [Act.put, List.setIfInBounds_toArray, List.set_cons_zero, List.set_cons_succ]
      refine Till.take 34 (v := undef) rfl (by kernel_rfl) (by kernel_rfl) (by kernel_rfl) (by kernel_rfl) (fun _ _ _ h => h) (Or.inr ⟨by rfl, rfl⟩) hHeld ?_
      try simp only [Act.put, List.setIfInBounds_toArray, List.set_cons_zero, List.set_cons_succ]
      refine Till.take 35 (v := ?_) rfl (by kernel_rfl) (by kernel_rfl) (by kernel_rfl) (by kernel_rfl) (fun _ _ _ h => h) (Or.inl ⟨by rfl, ?_⟩) hHeld ?_
      rotate_left
      · (intro w hSw; obtain ⟨s0, s1, s2, s3, s4, s5⟩ := hSw; go_simp; try with_reducible rfl)
      try simp only [Act.put, List.setIfInBounds_toArray, List.set_cons_zero, List.set_cons_succ]
      refine Till.one 36 (by kernel_rfl) rfl (fun K hK => ?_)
      go_simp
      go_at_call 24
      refine (config_Check.unless _ 82 _).mono ?_
      rintro e w9 ⟨v, rfl, ht, hb⟩
      obtain ⟨g6, lb6, rfl⟩ := ht.func
      have T6 := Aside0.mk ht
      clear ht
      replace Y2 := Aside0.mk (below_step Y2.out hb)
      replace Y4 := Aside0.mk (below_step Y4.out hb)
      replace Y6 := Aside0.mk (below_step Y6.out hb)
      replace Y8 := Aside0.mk (below_step Y8.out hb)
      have Y9 := Aside0.mk (Below.refl w9.heap.size w9)
      have X9 := Aside0.mk (below_step X8.out hb)
      clear hb
      refine hK.out _ _ (config_Check.FS_of (blk_below BF0.out X9.out)) ?_
      clear hHeld hK K
      have hHeld : (config_Check.FS w.heap.size x A4 A5 A6 c4 c5 c6) w9 := (config_Check.FS_of (blk_below BF0.out X9.out))
      try simp only [Act.put, List.setIfInBounds_toArray, List.set_cons_zero, List.set_cons_succ]
      have BV := Aside0.mk (blk_new w9 (.cells #[.func (.func g0) #[] lb0, .func (.func g1) #[] lb1, .func (.func g2) #[] lb2, .func (.func 40) #[] #[.pointer (some ⟨w.heap.size, 0, none⟩)], .func (.func g4) #[] lb4, .func (.func 37) #[] #[.pointer (some ⟨w.heap.size, 0, none⟩), .pointer (some ⟨w.heap.size + 1, 0, none⟩)], .func (.func g6) #[] lb6] 59 (0, 0)))
      have X10 := Aside0.mk (below_alloc X9.out (.cells #[.func (.func g0) #[] lb0, .func (.func g1) #[] lb1, .func (.func g2) #[] lb2, .func (.func 40) #[] #[.pointer (some ⟨w.heap.size, 0, none⟩)], .func (.func g4) #[] lb4, .func (.func 37) #[] #[.pointer (some ⟨w.heap.size, 0, none⟩), .pointer (some ⟨w.heap.size + 1, 0, none⟩)], .func (.func g6) #[] lb6] 59 (0, 0)))
      have XW := Aside0.mk (below_alloc (Below.refl _ w9) (.cells #[.func (.func g0) #[] lb0, .func (.func g1) #[] lb1, .func (.func g2) #[] lb2, .func (.func 40) #[] #[.pointer (some ⟨w.heap.size, 0, none⟩)], .func (.func g4) #[] lb4, .func (.func 37) #[] #[.pointer (some ⟨w.heap.size, 0, none⟩), .pointer (some ⟨w.heap.size + 1, 0, none⟩)], .func (.func g6) #[] lb6] 59 (0, 0)))
      refine Till.one 37 (by kernel_rfl) rfl (fun K hK => ?_)
      go_simp
      refine hK.out _ _ (config_Check.FS_of (blk_below BF0.out X10.out)) ?_
      clear hHeld hK K
      have hHeld : (config_Check.FS w.heap.size x A4 A5 A6 c4 c5 c6) (w9.alloc (.cells #[.func (.func g0) #[] lb0, .func (.func g1) #[] lb1, .func (.func g2) #[] lb2, .func (.func 40) #[] #[.pointer (some ⟨w.heap.size, 0, none⟩)], .func (.func g4) #[] lb4, .func (.func 37) #[] #[.pointer (some ⟨w.heap.size, 0, none⟩), .pointer (some ⟨w.heap.size + 1, 0, none⟩)], .func (.func g6) #[] lb6] 59 (0, 0))) := (config_Check.FS_of (blk_below BF0.out X10.out))
      try simp only [Act.put, List.setIfInBounds_toArray, List.set_cons_zero, List.set_cons_succ]
      refine Till.one 38 (by kernel_rfl) rfl (fun K hK => ?_)
      go_simp
      go_at_call 21
      refine (config_Check.first_eq #[.func (.func g0) #[] lb0, .func (.func g1) #[] lb1, .func (.func g2) #[] lb2, .func (.func 40) #[] #[.pointer (some ⟨w.heap.size, 0, none⟩)], .func (.func g4) #[] lb4, .func (.func 37) #[] #[.pointer (some ⟨w.heap.size, 0, none⟩), .pointer (some ⟨w.heap.size + 1, 0, none⟩)], .func (.func g6) #[] lb6].toList [config_Check.un (config_Check.wi x.f0 0 1) 1, config_Check.un (config_Check.wi x.f1 1 1048576) 80, config_Check.un (config_Check.wi x.f2 0 7) 70, config_Check.tableE x.f3, config_Check.un false 81, config_Check.rulesE x.f4 x.f1 most x.f3, config_Check.un false 82] ⟨w9.heap.size, 0, none⟩ 7 7 _ (config_Check.fedE x most) rfl rfl (by omega) (config_Check.cells_of BV.out) (config_Check.try7 (T0.out.below (below_step Y2.out XW.out)) (T1.out.below (below_step Y4.out XW.out)) (T2.out.below (below_step Y6.out XW.out)) (T3.out.below X10.out) (T4.out.below (below_step Y8.out XW.out)) (T5.out.below X10.out) (T6.out.below (below_step Y9.out XW.out))) HE.out).mono ?_
      rintro e wz ⟨rfl, hb⟩
      have XZ := Aside0.mk (below_step X10.out hb)
      clear hb
      refine hK.out _ _ (config_Check.FS_of (blk_below BF0.out XZ.out)) ?_
      clear hHeld hK K
      have hHeld : (config_Check.FS w.heap.size x A4 A5 A6 c4 c5 c6) wz := (config_Check.FS_of (blk_below BF0.out XZ.out))
      try simp only [Act.put, List.setIfInBounds_toArray, List.set_cons_zero, List.set_cons_succ]
      refine Till.take 39 (v := ?_) rfl (by kernel_rfl) (by kernel_rfl) (by kernel_rfl) (by kernel_rfl) (fun _ _ _ h => h) (Or.inl ⟨by rfl, ?_⟩) hHeld ?_
      rotate_left
      · (intro w hSw; obtain ⟨s0, s1, s2, s3, s4, s5⟩ := hSw; go_simp; try with_reducible rfl)
      try simp only [Act.put, List.setIfInBounds_toArray, List.set_cons_zero, List.set_cons_succ]
      refine Till.done (by kernel_rfl) ?_
      clear hHeld
      go_wp2
      go_ret
      exact ⟨rfl, below_step BW0.out XZ.out⟩
theorem config_Check.feds_drop {most : Int} {l : List S42} {kk : Nat} {x : S42} (hx : l[kk]? = some x) : config_Check.fedsE most (kk : Int) (l.drop kk) = if config_Check.fedE x most = 0 then config_Check.fedsE most ((kk : Int) + 1) (l.drop (kk + 1)) else ((kk : Int), config_Check.fedE x most) := by
  obtain ⟨hk, rfl⟩ := List.getElem?_eq_some_iff.1 hx
  rw [List.drop_eq_getElem_cons hk, config_Check.fedsE]
set_option maxRecDepth 100000 in
set_option maxHeartbeats 4000000 in
theorem config_Check.tree (A0 : Option Addr) (c0 : Nat) (l0 : List Int) (bW : Nat) (v1 v2 : Value) (w : World) (hW : w.heap[bW]? = some (.cells #[.slice A0 l0.length c0, v1, v2] 25 (0, 0))) (hr0 : Kd.C (Kd.int .i64) w A0 l0.length l0) (hc0 : l0.length ≤ c0) :
    Calls Try.prog 22 #[.pointer (some ⟨bW, 0, none⟩)] w fun e w' => e = .returned (.int .i64 (if Go.Proofs.YtdlagficilbbbaaU.treeB l0 = true then 0 else 50)) ∧ Below w.heap.size w w' := by
  have q0 : w.cell? ⟨bW, 0, none⟩ = some (.slice A0 l0.length c0) := (blk_cell hW 0).trans rfl
  have CT : Aside0 (Calls Try.prog 23 #[.slice A0 l0.length c0] w fun e w' => e = .returned (.int .i64 (if Go.Proofs.YtdlagficilbbbaaU.treeB l0 = true then 0 else 50)) ∧ Below w.heap.size w w') := ⟨(tree_IsA.hck A0 c0 l0 hc0 w hr0).mono fun e w' ⟨he, q, hq⟩ => ⟨he, by rw [hq]; exact pw_below_drewN (Below.refl _ _) q⟩⟩
  clear hW hr0 hc0
  generalize (if Go.Proofs.YtdlagficilbbbaaU.treeB l0 = true then (0 : Int) else 50) = te at *
  go_enter Try.func22, Try.ntmps22
  go_wp2_with (go_at_call 23; refine CT.out.mono ?_; rintro e w' ⟨rfl, hb'⟩)
  go_ret
  exact ⟨rfl, hb'⟩
set_option maxRecDepth 100000 in
set_option maxHeartbeats 8000000 in
theorem config_Check.walk (A0 : Option Addr) (c0 : Nat) (l0 : List Int) (A1 : Option Addr) (c1 : Nat) (l1 : List S42) (a0 : Int) (w : World) (hr0 : Kd.C (Kd.int .i64) w A0 l0.length l0) (hc0 : l0.length ≤ c0) (hr1 : Kd.C k42 w A1 l1.length l1) (hwf : (l1.all (fun x => x.f3.all table_Check.wfr)) = true) :
    Calls Try.prog 10 #[.agg #[.slice A0 l0.length c0, .slice A1 l1.length c1, .int .i64 a0]] w fun e w' => e = .returned (.tuple #[.int .i64 (config_Check.all l0 l1 a0).1, .int .i64 (config_Check.all l0 l1 a0).2]) ∧ Below w.heap.size w w' := by
  have hmf : ∀ (fn : Fn) (first cap : Array Value) (w : World), (Instr.makeFunc fn first cap).run Try.prog w = .ok (.func fn first cap) w := fun _ _ _ _ => rfl
  have hm1 : l1.length ≤ 9223372036854775807 := hr1.2.1
  have BW0 := Aside0.mk (below_alloc (Below.refl _ w) (.cells #[.slice A0 l0.length c0, .slice A1 l1.length c1, .int .i64 a0] 25 (0, 0)))
  have BK0 := Aside0.mk (blk_new w (.cells #[.slice A0 l0.length c0, .slice A1 l1.length c1, .int .i64 a0] 25 (0, 0)))
  have HR0 := Aside0.mk hr0
  have HC0 := Aside0.mk hc0
  have HR1 := Aside0.mk hr1
  have HWF := Aside0.mk hwf
  clear hr0 hc0 hr1 hwf
  have C1 := Aside0.mk (fun V => config_Check.within a0 0 1099511627776 V)
  have C2 := Aside0.mk (fun V => config_Check.within (l1.length : Int) 1 8 V)
  have hu := Try.underlying25
  go_enter Try.func10, Try.ntmps10
  go_wp2_with fail
  generalize hW0 : w.alloc (.cells #[.slice A0 l0.length c0, .slice A1 l1.length c1, .int .i64 a0] 25 (0, 0)) = W0 at *
  clear hW0
  have k00 : W0.cell? ⟨w.heap.size, 0, none⟩ = some (.slice A0 l0.length c0) := (blk_cell BK0.out 0).trans rfl
  have k01 : W0.cell? ⟨w.heap.size, 1, none⟩ = some (.slice A1 l1.length c1) := (blk_cell BK0.out 1).trans rfl
  have k02 : W0.cell? ⟨w.heap.size, 2, none⟩ = some (.int .i64 a0) := (blk_cell BK0.out 2).trans rfl
  have TT : Aside0 (config_Check.Try W0 (.func (.func 22) #[] #[.pointer (some ⟨w.heap.size, 0, none⟩)]) (if Go.Proofs.YtdlagficilbbbaaU.treeB l0 = true then 0 else 50)) := ⟨⟨_, _, rfl, enters_of Try.func22 (by kernel_rfl) rfl, fun V hV => config_Check.tree A0 c0 l0 w.heap.size _ _ V (blk_below BK0.out hV) (Kd.C_below HR0.out (below_step BW0.out hV)) HC0.out⟩⟩
  cases hw : config_Check.wi a0 0 1099511627776 with
  | true =>
    obtain ⟨e9, he9⟩ : ∃ e9, config_Check.firstE [if Go.Proofs.YtdlagficilbbbaaU.treeB l0 = true then 0 else 50, config_Check.un (config_Check.wi (l1.length : Int) 1 8) 1] = e9 := ⟨_, rfl⟩
    have HE := Aside0.mk he9
    have HD : Aside0 (config_Check.all l0 l1 a0 = if e9 = 0 then config_Check.fedsE (l0.length : Int) 0 l1 else (-1, e9)) := ⟨by unfold config_Check.all; rw [hw]; simp only [Bool.true_and, Bool.false_and]; rw [he9]⟩
    rw [hw] at C1
    clear hw he9
    by_cases hz : e9 = 0
    · have HA : Aside0 (config_Check.all l0 l1 a0 = config_Check.fedsE (l0.length : Int) ((0 : Nat) : Int) (l1.drop 0)) := ⟨by rw [HD.out, if_pos hz]; rfl⟩
      subst hz
      go_wp2_with (first
        | (go_at_call 25; with_reducible refine (C1.out _).mono ?_; rintro e w1 ⟨rfl, hb⟩; have X1 := Aside0.mk hb; have k11 : w1.cell? ⟨w.heap.size, 1, none⟩ = some (.slice A1 l1.length c1) := (blk_cell (blk_below BK0.out hb) 1).trans rfl; clear hb)
        | (go_at_call 25; with_reducible refine (C2.out _).mono ?_; rintro e w2 ⟨rfl, hb⟩; have X2 := Aside0.mk (below_step X1.out hb); clear hb)
        | (go_at_call 24; refine (config_Check.unless _ 1 _).mono ?_; rintro e w3 ⟨v, rfl, ht, hb⟩; obtain ⟨g, lb, rfl⟩ := ht.func; have T := Aside0.mk ht; have X3 := Aside0.mk (below_step X2.out hb); have BV := Aside0.mk (blk_new w3 (.cells #[.func (.func 22) #[] #[.pointer (some ⟨w.heap.size, 0, none⟩)], .func (.func g) #[] lb] 59 (0, 0))); have XW := Aside0.mk (below_alloc (Below.refl _ w3) (.cells #[.func (.func 22) #[] #[.pointer (some ⟨w.heap.size, 0, none⟩)], .func (.func g) #[] lb] 59 (0, 0))); clear ht hb))
      refine (config_Check.first_eq [.func (.func 22) #[] #[.pointer (some ⟨w.heap.size, 0, none⟩)], .func (.func g) #[] lb] [if Go.Proofs.YtdlagficilbbbaaU.treeB l0 = true then 0 else 50, config_Check.un (config_Check.wi (l1.length : Int) 1 8) 1] ⟨w3.heap.size, 0, none⟩ 2 2 _ 0 rfl rfl (by omega) (config_Check.cells_of BV.out) (config_Check.try2 ((TT.out.below X3.out).below XW.out) (T.out.below XW.out)) HE.out).mono ?_
      rintro e w4 ⟨rfl, hb⟩
      have X4 := Aside0.mk (below_step (below_step X3.out XW.out) hb)
      have k41 : w4.cell? ⟨w.heap.size, 1, none⟩ = some (.slice A1 l1.length c1) := (blk_cell (blk_below BK0.out X4.out) 1).trans rfl
      clear hb
      go_wp2
      go_loopg [27] l1.length (fun gg s27 wr => ∃ kk : Nat, kk ≤ l1.length ∧ l1.length - kk ≤ gg ∧ s27 = .int .i64 kk ∧ Aside0 (Below W0.heap.size W0 wr) ∧ Aside0 (config_Check.all l0 l1 a0 = config_Check.fedsE (l0.length : Int) (kk : Int) (l1.drop kk)))
      case atStart => exact ⟨0, Nat.zero_le _, by omega, rfl, ⟨X4.out⟩, ⟨HA.out⟩⟩
      case round =>
        obtain ⟨kk, hkk, hg, rfl, BW, EQ⟩ := hrel
        by_cases hlt : kk < l1.length
        · have hltz : (kk : Int) < (l1.length : Int) := by omega
          have hk0 : (0 : Int) ≤ (kk : Int) := Int.natCast_nonneg kk
          obtain ⟨x, hx⟩ : ∃ x, l1[kk]? = some x := ⟨_, List.getElem?_eq_getElem hlt⟩
          obtain ⟨ad, cs, rfl, hcl, hK, hcell⟩ := cells_at (Kd.C_below HR1.out (below_step BW0.out BW.out)) hx
          obtain ⟨A3, c3, A4, c4, A5, c5, A6, c6, rfl, l3, g3, l4, g4, l5, g5, l6, g6⟩ := k42_open hK
          have q0 : wr.cell? (ad.add (kk * 7)) = some (.int .i64 x.f0) := by exact hcell 0 _ rfl
          have q1 : wr.cell? ⟨(ad.add (kk * 7)).block, (ad.add (kk * 7)).off + 1, none⟩ = some (.int .i64 x.f1) := by have := hcell 1 _ rfl; rwa [add_field _ _ 1 (by omega)] at this
          have q2 : wr.cell? ⟨(ad.add (kk * 7)).block, (ad.add (kk * 7)).off + 2, none⟩ = some (.int .i64 x.f2) := by have := hcell 2 _ rfl; rwa [add_field _ _ 2 (by omega)] at this
          have q3 : wr.cell? ⟨(ad.add (kk * 7)).block, (ad.add (kk * 7)).off + 3, none⟩ = some (.slice A3 x.f3.length c3) := by have := hcell 3 _ rfl; rwa [add_field _ _ 3 (by omega)] at this
          have q4 : wr.cell? ⟨(ad.add (kk * 7)).block, (ad.add (kk * 7)).off + 4, none⟩ = some (.slice A4 x.f4.length c4) := by have := hcell 4 _ rfl; rwa [add_field _ _ 4 (by omega)] at this
          have q5 : wr.cell? ⟨(ad.add (kk * 7)).block, (ad.add (kk * 7)).off + 5, none⟩ = some (.slice A5 x.f5.length c5) := by have := hcell 5 _ rfl; rwa [add_field _ _ 5 (by omega)] at this
          have q6 : wr.cell? ⟨(ad.add (kk * 7)).block, (ad.add (kk * 7)).off + 6, none⟩ = some (.slice A6 x.f6.length c6) := by have := hcell 6 _ rfl; rwa [add_field _ _ 6 (by omega)] at this
          have ED := Aside0.mk (EQ.out.trans (config_Check.feds_drop hx))
          have HG := Aside0.mk hg
          have hwf := List.all_eq_true.mp HWF.out x (List.mem_of_getElem? hx)
          have XF := Aside0.mk (below_alloc (Below.refl _ wr) (.cells #[.int .i64 x.f0, .int .i64 x.f1, .int .i64 x.f2, .slice A3 x.f3.length c3, .slice A4 x.f4.length c4, .slice A5 x.f5.length c5, .slice A6 x.f6.length c6] 42 (0, 0)))
          have CF := Aside0.mk (config_Check.fed x A3 A4 A5 A6 c3 c4 c5 c6 (l0.length : Int) _ (Kd.C_below g3 XF.out) l3 (Kd.C_below g4 XF.out) l4 (Kd.C_below g5 XF.out) (Kd.C_below g6 XF.out) hwf)
          have kp : World.cell? (wr.alloc (.cells #[.int .i64 x.f0, .int .i64 x.f1, .int .i64 x.f2, .slice A3 x.f3.length c3, .slice A4 x.f4.length c4, .slice A5 x.f5.length c5, .slice A6 x.f6.length c6] 42 (0, 0))) ⟨w.heap.size, 0, none⟩ = some (.slice A0 l0.length c0) := (blk_cell (blk_below BK0.out (below_step BW.out XF.out)) 0).trans rfl
          clear hcell hK hcl hx hg l3 g3 l4 g4 l5 g5 l6 g6 hwf
          obtain ⟨ex, hex⟩ : ∃ ex, config_Check.fedE x (l0.length : Int) = ex := ⟨_, rfl⟩
          rw [hex] at CF ED
          clear hex
          by_cases hz : ex = 0
          · have EZ : Aside0 (config_Check.all l0 l1 a0 = config_Check.fedsE (l0.length : Int) ((kk + 1 : Nat) : Int) (l1.drop (kk + 1))) := ⟨by rw [ED.out, if_pos hz]; rfl⟩
            subst hz
            go_wp2_with (go_at_call 26; refine CF.out.mono ?_; rintro e w5 ⟨rfl, hb⟩; have BZ := Aside0.mk (below_step (below_step BW.out XF.out) hb); clear hb)
            go_roundg (l1.length - (kk + 1))
            case measure => have := HG.out; omega
            case rel => exact ⟨kk + 1, by omega, by omega, by go_num, BZ, EZ⟩
          · have EZ : Aside0 (config_Check.all l0 l1 a0 = ((kk : Int), ex)) := ⟨by rw [ED.out, if_neg hz]⟩
            have b1 : ((ex : Int) == 0) = false := by simp [hz]
            have b2 : ((ex : Int) != 0) = true := by simp [hz]
            go_wp2_with (go_at_call 26; refine CF.out.mono ?_; rintro e w5 ⟨rfl, hb⟩; have BZ := Aside0.mk (below_step (below_step BW.out XF.out) hb); clear hb)
            go_ret2
            exact ⟨by rw [EZ.out]; rfl, below_step BW0.out BZ.out⟩
        · have hltz : ¬ (kk : Int) < (l1.length : Int) := by omega
          have EZ : Aside0 (config_Check.all l0 l1 a0 = (-1, 0)) := ⟨by rw [EQ.out, List.drop_eq_nil_of_le (by omega)]; rfl⟩
          go_wp2
          go_ret2
          exact ⟨by rw [EZ.out]; rfl, below_step BW0.out BW.out⟩
    · have EZ : Aside0 (config_Check.all l0 l1 a0 = (-1, e9)) := ⟨by rw [HD.out, if_neg hz]⟩
      have b1 : ((e9 : Int) == 0) = false := by simp [hz]
      have b2 : ((e9 : Int) != 0) = true := by simp [hz]
      go_wp2_with (first
        | (go_at_call 25; with_reducible refine (C1.out _).mono ?_; rintro e w1 ⟨rfl, hb⟩; have X1 := Aside0.mk hb; have k11 : w1.cell? ⟨w.heap.size, 1, none⟩ = some (.slice A1 l1.length c1) := (blk_cell (blk_below BK0.out hb) 1).trans rfl; clear hb)
        | (go_at_call 25; with_reducible refine (C2.out _).mono ?_; rintro e w2 ⟨rfl, hb⟩; have X2 := Aside0.mk (below_step X1.out hb); clear hb)
        | (go_at_call 24; refine (config_Check.unless _ 1 _).mono ?_; rintro e w3 ⟨v, rfl, ht, hb⟩; obtain ⟨g, lb, rfl⟩ := ht.func; have T := Aside0.mk ht; have X3 := Aside0.mk (below_step X2.out hb); have BV := Aside0.mk (blk_new w3 (.cells #[.func (.func 22) #[] #[.pointer (some ⟨w.heap.size, 0, none⟩)], .func (.func g) #[] lb] 59 (0, 0))); have XW := Aside0.mk (below_alloc (Below.refl _ w3) (.cells #[.func (.func 22) #[] #[.pointer (some ⟨w.heap.size, 0, none⟩)], .func (.func g) #[] lb] 59 (0, 0))); clear ht hb))
      refine (config_Check.first_eq [.func (.func 22) #[] #[.pointer (some ⟨w.heap.size, 0, none⟩)], .func (.func g) #[] lb] [if Go.Proofs.YtdlagficilbbbaaU.treeB l0 = true then 0 else 50, config_Check.un (config_Check.wi (l1.length : Int) 1 8) 1] ⟨w3.heap.size, 0, none⟩ 2 2 _ e9 rfl rfl (by omega) (config_Check.cells_of BV.out) (config_Check.try2 ((TT.out.below X3.out).below XW.out) (T.out.below XW.out)) HE.out).mono ?_
      rintro e w4 ⟨rfl, hb⟩
      have X4 := Aside0.mk (below_step (below_step X3.out XW.out) hb)
      have k41 : w4.cell? ⟨w.heap.size, 1, none⟩ = some (.slice A1 l1.length c1) := (blk_cell (blk_below BK0.out X4.out) 1).trans rfl
      clear hb
      go_wp2
      go_ret2
      exact ⟨by rw [EZ.out]; rfl, below_step BW0.out X4.out⟩
  | false =>
    obtain ⟨e9, he9⟩ : ∃ e9, config_Check.firstE [if Go.Proofs.YtdlagficilbbbaaU.treeB l0 = true then 0 else 50, config_Check.un false 1] = e9 := ⟨_, rfl⟩
    have HE := Aside0.mk he9
    have HD : Aside0 (config_Check.all l0 l1 a0 = if e9 = 0 then config_Check.fedsE (l0.length : Int) 0 l1 else (-1, e9)) := ⟨by unfold config_Check.all; rw [hw]; simp only [Bool.true_and, Bool.false_and]; rw [he9]⟩
    rw [hw] at C1
    clear hw he9
    by_cases hz : e9 = 0
    · have HA : Aside0 (config_Check.all l0 l1 a0 = config_Check.fedsE (l0.length : Int) ((0 : Nat) : Int) (l1.drop 0)) := ⟨by rw [HD.out, if_pos hz]; rfl⟩
      subst hz
      go_wp2_with (first
        | (go_at_call 25; with_reducible refine (C1.out _).mono ?_; rintro e w1 ⟨rfl, hb⟩; have X1 := Aside0.mk hb; have k11 : w1.cell? ⟨w.heap.size, 1, none⟩ = some (.slice A1 l1.length c1) := (blk_cell (blk_below BK0.out hb) 1).trans rfl; clear hb)
        | (go_at_call 24; refine (config_Check.unless _ 1 _).mono ?_; rintro e w3 ⟨v, rfl, ht, hb⟩; obtain ⟨g, lb, rfl⟩ := ht.func; have T := Aside0.mk ht; have X3 := Aside0.mk (below_step X1.out hb); have BV := Aside0.mk (blk_new w3 (.cells #[.func (.func 22) #[] #[.pointer (some ⟨w.heap.size, 0, none⟩)], .func (.func g) #[] lb] 59 (0, 0))); have XW := Aside0.mk (below_alloc (Below.refl _ w3) (.cells #[.func (.func 22) #[] #[.pointer (some ⟨w.heap.size, 0, none⟩)], .func (.func g) #[] lb] 59 (0, 0))); clear ht hb))
      refine (config_Check.first_eq [.func (.func 22) #[] #[.pointer (some ⟨w.heap.size, 0, none⟩)], .func (.func g) #[] lb] [if Go.Proofs.YtdlagficilbbbaaU.treeB l0 = true then 0 else 50, config_Check.un false 1] ⟨w3.heap.size, 0, none⟩ 2 2 _ 0 rfl rfl (by omega) (config_Check.cells_of BV.out) (config_Check.try2 ((TT.out.below X3.out).below XW.out) (T.out.below XW.out)) HE.out).mono ?_
      rintro e w4 ⟨rfl, hb⟩
      have X4 := Aside0.mk (below_step (below_step X3.out XW.out) hb)
      have k41 : w4.cell? ⟨w.heap.size, 1, none⟩ = some (.slice A1 l1.length c1) := (blk_cell (blk_below BK0.out X4.out) 1).trans rfl
      clear hb
      go_wp2
      go_loopg [27] l1.length (fun gg s27 wr => ∃ kk : Nat, kk ≤ l1.length ∧ l1.length - kk ≤ gg ∧ s27 = .int .i64 kk ∧ Aside0 (Below W0.heap.size W0 wr) ∧ Aside0 (config_Check.all l0 l1 a0 = config_Check.fedsE (l0.length : Int) (kk : Int) (l1.drop kk)))
      case atStart => exact ⟨0, Nat.zero_le _, by omega, rfl, ⟨X4.out⟩, ⟨HA.out⟩⟩
      case round =>
        obtain ⟨kk, hkk, hg, rfl, BW, EQ⟩ := hrel
        by_cases hlt : kk < l1.length
        · have hltz : (kk : Int) < (l1.length : Int) := by omega
          have hk0 : (0 : Int) ≤ (kk : Int) := Int.natCast_nonneg kk
          obtain ⟨x, hx⟩ : ∃ x, l1[kk]? = some x := ⟨_, List.getElem?_eq_getElem hlt⟩
          obtain ⟨ad, cs, rfl, hcl, hK, hcell⟩ := cells_at (Kd.C_below HR1.out (below_step BW0.out BW.out)) hx
          obtain ⟨A3, c3, A4, c4, A5, c5, A6, c6, rfl, l3, g3, l4, g4, l5, g5, l6, g6⟩ := k42_open hK
          have q0 : wr.cell? (ad.add (kk * 7)) = some (.int .i64 x.f0) := by exact hcell 0 _ rfl
          have q1 : wr.cell? ⟨(ad.add (kk * 7)).block, (ad.add (kk * 7)).off + 1, none⟩ = some (.int .i64 x.f1) := by have := hcell 1 _ rfl; rwa [add_field _ _ 1 (by omega)] at this
          have q2 : wr.cell? ⟨(ad.add (kk * 7)).block, (ad.add (kk * 7)).off + 2, none⟩ = some (.int .i64 x.f2) := by have := hcell 2 _ rfl; rwa [add_field _ _ 2 (by omega)] at this
          have q3 : wr.cell? ⟨(ad.add (kk * 7)).block, (ad.add (kk * 7)).off + 3, none⟩ = some (.slice A3 x.f3.length c3) := by have := hcell 3 _ rfl; rwa [add_field _ _ 3 (by omega)] at this
          have q4 : wr.cell? ⟨(ad.add (kk * 7)).block, (ad.add (kk * 7)).off + 4, none⟩ = some (.slice A4 x.f4.length c4) := by have := hcell 4 _ rfl; rwa [add_field _ _ 4 (by omega)] at this
          have q5 : wr.cell? ⟨(ad.add (kk * 7)).block, (ad.add (kk * 7)).off + 5, none⟩ = some (.slice A5 x.f5.length c5) := by have := hcell 5 _ rfl; rwa [add_field _ _ 5 (by omega)] at this
          have q6 : wr.cell? ⟨(ad.add (kk * 7)).block, (ad.add (kk * 7)).off + 6, none⟩ = some (.slice A6 x.f6.length c6) := by have := hcell 6 _ rfl; rwa [add_field _ _ 6 (by omega)] at this
          have ED := Aside0.mk (EQ.out.trans (config_Check.feds_drop hx))
          have HG := Aside0.mk hg
          have hwf := List.all_eq_true.mp HWF.out x (List.mem_of_getElem? hx)
          have XF := Aside0.mk (below_alloc (Below.refl _ wr) (.cells #[.int .i64 x.f0, .int .i64 x.f1, .int .i64 x.f2, .slice A3 x.f3.length c3, .slice A4 x.f4.length c4, .slice A5 x.f5.length c5, .slice A6 x.f6.length c6] 42 (0, 0)))
          have CF := Aside0.mk (config_Check.fed x A3 A4 A5 A6 c3 c4 c5 c6 (l0.length : Int) _ (Kd.C_below g3 XF.out) l3 (Kd.C_below g4 XF.out) l4 (Kd.C_below g5 XF.out) (Kd.C_below g6 XF.out) hwf)
          have kp : World.cell? (wr.alloc (.cells #[.int .i64 x.f0, .int .i64 x.f1, .int .i64 x.f2, .slice A3 x.f3.length c3, .slice A4 x.f4.length c4, .slice A5 x.f5.length c5, .slice A6 x.f6.length c6] 42 (0, 0))) ⟨w.heap.size, 0, none⟩ = some (.slice A0 l0.length c0) := (blk_cell (blk_below BK0.out (below_step BW.out XF.out)) 0).trans rfl
          clear hcell hK hcl hx hg l3 g3 l4 g4 l5 g5 l6 g6 hwf
          obtain ⟨ex, hex⟩ : ∃ ex, config_Check.fedE x (l0.length : Int) = ex := ⟨_, rfl⟩
          rw [hex] at CF ED
          clear hex
          by_cases hz : ex = 0
          · have EZ : Aside0 (config_Check.all l0 l1 a0 = config_Check.fedsE (l0.length : Int) ((kk + 1 : Nat) : Int) (l1.drop (kk + 1))) := ⟨by rw [ED.out, if_pos hz]; rfl⟩
            subst hz
            go_wp2_with (go_at_call 26; refine CF.out.mono ?_; rintro e w5 ⟨rfl, hb⟩; have BZ := Aside0.mk (below_step (below_step BW.out XF.out) hb); clear hb)
            go_roundg (l1.length - (kk + 1))
            case measure => have := HG.out; omega
            case rel => exact ⟨kk + 1, by omega, by omega, by go_num, BZ, EZ⟩
          · have EZ : Aside0 (config_Check.all l0 l1 a0 = ((kk : Int), ex)) := ⟨by rw [ED.out, if_neg hz]⟩
            have b1 : ((ex : Int) == 0) = false := by simp [hz]
            have b2 : ((ex : Int) != 0) = true := by simp [hz]
            go_wp2_with (go_at_call 26; refine CF.out.mono ?_; rintro e w5 ⟨rfl, hb⟩; have BZ := Aside0.mk (below_step (below_step BW.out XF.out) hb); clear hb)
            go_ret2
            exact ⟨by rw [EZ.out]; rfl, below_step BW0.out BZ.out⟩
        · have hltz : ¬ (kk : Int) < (l1.length : Int) := by omega
          have EZ : Aside0 (config_Check.all l0 l1 a0 = (-1, 0)) := ⟨by rw [EQ.out, List.drop_eq_nil_of_le (by omega)]; rfl⟩
          go_wp2
          go_ret2
          exact ⟨by rw [EZ.out]; rfl, below_step BW0.out BW.out⟩
    · have EZ : Aside0 (config_Check.all l0 l1 a0 = (-1, e9)) := ⟨by rw [HD.out, if_neg hz]⟩
      have b1 : ((e9 : Int) == 0) = false := by simp [hz]
      have b2 : ((e9 : Int) != 0) = true := by simp [hz]
      go_wp2_with (first
        | (go_at_call 25; with_reducible refine (C1.out _).mono ?_; rintro e w1 ⟨rfl, hb⟩; have X1 := Aside0.mk hb; have k11 : w1.cell? ⟨w.heap.size, 1, none⟩ = some (.slice A1 l1.length c1) := (blk_cell (blk_below BK0.out hb) 1).trans rfl; clear hb)
        | (go_at_call 24; refine (config_Check.unless _ 1 _).mono ?_; rintro e w3 ⟨v, rfl, ht, hb⟩; obtain ⟨g, lb, rfl⟩ := ht.func; have T := Aside0.mk ht; have X3 := Aside0.mk (below_step X1.out hb); have BV := Aside0.mk (blk_new w3 (.cells #[.func (.func 22) #[] #[.pointer (some ⟨w.heap.size, 0, none⟩)], .func (.func g) #[] lb] 59 (0, 0))); have XW := Aside0.mk (below_alloc (Below.refl _ w3) (.cells #[.func (.func 22) #[] #[.pointer (some ⟨w.heap.size, 0, none⟩)], .func (.func g) #[] lb] 59 (0, 0))); clear ht hb))
      refine (config_Check.first_eq [.func (.func 22) #[] #[.pointer (some ⟨w.heap.size, 0, none⟩)], .func (.func g) #[] lb] [if Go.Proofs.YtdlagficilbbbaaU.treeB l0 = true then 0 else 50, config_Check.un false 1] ⟨w3.heap.size, 0, none⟩ 2 2 _ e9 rfl rfl (by omega) (config_Check.cells_of BV.out) (config_Check.try2 ((TT.out.below X3.out).below XW.out) (T.out.below XW.out)) HE.out).mono ?_
      rintro e w4 ⟨rfl, hb⟩
      have X4 := Aside0.mk (below_step (below_step X3.out XW.out) hb)
      have k41 : w4.cell? ⟨w.heap.size, 1, none⟩ = some (.slice A1 l1.length c1) := (blk_cell (blk_below BK0.out X4.out) 1).trans rfl
      clear hb
      go_wp2
      go_ret2
      exact ⟨by rw [EZ.out]; rfl, below_step BW0.out X4.out⟩
theorem config_Check.calls (A0 : Option Addr) (c0 : Nat) (l0 : List Int) (A1 : Option Addr) (c1 : Nat) (l1 : List S42) (a0 : Int) (r1 r2 : Int) (w : World) (hr0 : Kd.C (Kd.int .i64) w A0 l0.length l0) (hc0 : l0.length ≤ c0) (hr1 : Kd.C k42 w A1 l1.length l1) (hc1 : l1.length ≤ c1) (h : config_Check.f l0 l1 a0 = some (r1, r2)) :
    Calls Try.prog 10 #[.agg #[.slice A0 l0.length c0, .slice A1 l1.length c1, .int .i64 a0]] w fun e w' => e = .returned (.tuple #[.int .i64 r1, .int .i64 r2]) ∧ Below w.heap.size w w' := by
  unfold config_Check.f at h
  by_cases hwf : (l1.all (fun x => x.f3.all table_Check.wfr)) = true
  · rw [if_pos hwf] at h
    have e := Option.some.inj h
    have hw := config_Check.walk A0 c0 l0 A1 c1 l1 a0 w hr0 hc0 hr1 hwf
    rw [e] at hw
    exact hw
  · rw [if_neg hwf] at h
    cases h
end
end Go.Proofs.Ytdlagficilbbbaa.PConfigKinds
