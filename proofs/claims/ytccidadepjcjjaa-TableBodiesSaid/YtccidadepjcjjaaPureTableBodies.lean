/- 'pacelinelaw07.TableBodies': whatever body, whatever numbers are added and whatever delays: the law answers true. Conditions: none beyond the form's own reach. -/
import Derived.Test.YtccidadepjcjjaaPTableBodiesx2
namespace Go.Proofs.Ytccidadepjcjjaa.Pure
open Go.RowKit Go.Proofs.Ytccidadepjcjjaa.PTableBodies Go.Proofs.YtccidadepjcjjaaR Go.Proofs.YtccidadepjcjjaaW.PrintWords Go.Proofs.YtccidadepjcjjaaW.PrintLast

theorem tmod_pos {a : Int} (h : 0 ≤ a) : Int.tmod a 1000 = a % 1000 := Int.tmod_eq_emod_of_nonneg h

theorem clamp_mid {a : Int} (h0 : 0 ≤ a) (h1 : a ≤ 1099511627776) : vtime_clamp.f a = some a := by
  unfold vtime_clamp.f
  rw [if_neg (by omega), if_neg (by omega)]

theorem add_mid {a d : Int} (h0 : 0 ≤ a) (h1 : 0 ≤ d) (h2 : a + d ≤ 1099511627776) : vtime_Add.f a d = some (a + d) := by
  unfold vtime_Add.f
  rw [clamp_mid h0 (by omega), clamp_mid h1 (by omega)]
  simp only [Option.bind_some]
  rw [wrap64_id (by omega) (by omega), clamp_mid (by omega) h2]
  rfl

theorem modulo_pos {a : Int} (h : 0 ≤ a) : table_modulo.f a = some (a % 1000) := by
  unfold table_modulo.f
  rw [tmod_pos h, if_neg (by omega)]

theorem sent_mid {from_ seq now body c d e : Int} (hn : 0 ≤ now) (hd : 0 ≤ d) (hnd : now + d ≤ 1099511627776) (hb : 0 ≤ body) (he : 0 ≤ e) :
    table_Sent.f from_ seq now body c d e = some (now + d, from_, seq, -1, c, (body + e) % 1000) := by
  unfold table_Sent.f
  rw [add_mid hn hd hnd, modulo_pos hb, modulo_pos he]
  simp only [Option.bind_some]
  rw [wrap64_id (by omega) (by omega), modulo_pos (by omega)]
  simp only [Option.bind_some]
  rw [show (body % 1000 + e % 1000) % 1000 = (body + e) % 1000 by omega]

theorem bodies_loop (l1 l2 : List Int) (H1 : ∀ x ∈ l1, 0 ≤ x ∧ x ≤ 65535) (H2 : ∀ x ∈ l2, 0 ≤ x ∧ x ≤ 255) (hl : (l1.length : Int) ≤ 60) (d : Nat) :
    ∀ (k : Nat) (b t want i : Int), 0 ≤ i → i ≤ l1.length → (l1.length : Int) - i = d → d < k → 0 ≤ b → b < 1000 → 0 ≤ t → t ≤ 255 * i → 0 ≤ want → want ≤ 1000 * (i + 1) → b = want % 1000 →
      pacelinelaw07_TableBodies.l0 k l1 l2 b t want t i = some true := by
  induction d with
  | zero =>
    intro k b t want i h0 h1 hd hk hb0 hb1 ht0 ht1 hw0 hw1 hbw
    obtain ⟨k, rfl⟩ : ∃ m, k = m + 1 := ⟨k - 1, by omega⟩
    simp only [pacelinelaw07_TableBodies.l0]
    rw [if_neg (by omega), if_pos (by rw [tmod_pos hw0]; exact hbw), sent_mid (by omega) (by omega) (by omega) (by omega) (by omega)]
    simp
  | succ d ih =>
    intro k b t want i h0 h1 hd hk hb0 hb1 ht0 ht1 hw0 hw1 hbw
    obtain ⟨k, rfl⟩ : ∃ m, k = m + 1 := ⟨k - 1, by omega⟩
    have hlt : i < (l1.length : Int) := by omega
    have ha := H1 _ (rd_mem h0 hlt)
    simp only [pacelinelaw07_TableBodies.l0]
    rw [if_pos hlt, wrap64_id (x := rd l1 i) (by omega) (by omega), tmod_pos (by omega)]
    have ha' : 0 ≤ rd l1 i % 1000 ∧ rd l1 i % 1000 < 1000 := by omega
    generalize rd l1 i % 1000 = a at *
    by_cases hx : True
    · obtain ⟨ha0, ha1⟩ := ha'
      by_cases h2 : i < (l2.length : Int)
      · have hd2 := H2 _ (rd_mem h0 h2)
        rw [if_pos h2, if_pos h0, wrap64_id (x := rd l2 i) (by omega) (by omega)]
        generalize rd l2 i = dl at *
        rw [sent_mid (by omega) (by omega) (by omega) (by omega) (by omega), wrap64_id (x := t + dl) (by omega) (by omega), wrap64_id (x := i + 1) (by omega) (by omega), wrap64_id (x := want + a) (by omega) (by omega)]
        simp only [Option.bind_some, if_true]
        exact ih k _ _ _ _ (by omega) (by omega) (by omega) (by omega) (by omega) (by omega) (by omega) (by omega) (by omega) (by omega) (by omega)
      · rw [if_neg h2, if_pos h0]
        rw [sent_mid (by omega) (by omega) (by omega) (by omega) (by omega), wrap64_id (x := t) (by omega) (by omega), wrap64_id (x := i + 1) (by omega) (by omega), wrap64_id (x := want + a) (by omega) (by omega)]
        simp only [Option.bind_some, if_true, Int.add_zero]
        exact ih k _ _ _ _ (by omega) (by omega) (by omega) (by omega) (by omega) (by omega) (by omega) (by omega) (by omega) (by omega) (by omega)
    · exact absurd trivial hx

theorem TableBodies : pacelinelaw07_TableBodies.Pure := by
  intro a0 l1 l2 h0 h1 h2
  refine ⟨l1.length + 1, ?_⟩
  have := wf_u16 h0
  unfold pacelinelaw07_TableBodies.f
  by_cases hl : (l1.length : Int) > 60
  · rw [if_pos hl]
  · rw [if_neg hl, wrap64_id (by omega) (by omega), tmod_pos (by omega)]
    exact bodies_loop l1 l2 (fun x hx => wf_u16 (h1.2 x hx)) (fun x hx => wf_u8 (h2.2 x hx)) (by omega) l1.length _ _ _ _ _ (by omega) (by omega) (by omega) (by omega) (by omega) (by omega) (by omega) (by omega) (by omega) (by omega) (by omega)

end Go.Proofs.Ytccidadepjcjjaa.Pure
