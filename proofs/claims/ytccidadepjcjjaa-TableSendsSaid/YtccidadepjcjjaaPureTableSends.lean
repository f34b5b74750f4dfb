/- 'pacelinelaw07.TableSends': whatever federate sends at whatever time: the law answers true. Conditions: none beyond the form's own reach. -/
import Derived.Test.YtccidadepjcjjaaPTableSendsx3
namespace Go.Proofs.Ytccidadepjcjjaa.Pure
open Go.RowKit Go.Proofs.Ytccidadepjcjjaa.PTableSends Go.Proofs.YtccidadepjcjjaaR Go.Proofs.YtccidadepjcjjaaW.PrintWords Go.Proofs.YtccidadepjcjjaaW.PrintLast

/-- What a number counts as. -/
def cl (a : Int) : Int := if a < 0 then 0 else if a > 1099511627776 then 1125899906842624 else a
theorem cl_range (a : Int) : 0 ≤ cl a ∧ cl a ≤ 1125899906842624 := by unfold cl; split <;> (try split) <;> omega
theorem clamp_eq (a : Int) : vtime_clamp.f a = some (cl a) := by unfold vtime_clamp.f cl; split <;> (try split) <;> rfl
theorem time_eq (a : Int) : pacelineref01_time.f a = some (cl a) := by unfold pacelineref01_time.f cl; split <;> (try split) <;> rfl
theorem add_eq (a d : Int) : vtime_Add.f a d = some (cl (cl a + cl d)) := by
  unfold vtime_Add.f
  have := cl_range a; have := cl_range d
  simp only [clamp_eq, Option.bind_some]
  rw [wrap64_id (by omega) (by omega)]
theorem radd_eq (a d : Int) : pacelineref01_Add.f a d = some (cl (cl a + cl d)) := by
  unfold pacelineref01_Add.f
  have h1 := cl_range a; have h2 := cl_range d
  simp only [time_eq, Option.bind_some]
  by_cases ha : cl a = 1125899906842624
  · rw [if_pos ha, ha]; unfold cl at h2 ⊢; congr 1; split <;> (try split) <;> omega
  · rw [if_neg ha]
    by_cases hd : cl d = 1125899906842624
    · rw [if_pos hd, hd]; unfold cl at h1 ⊢; congr 1; split <;> (try split) <;> omega
    · rw [if_neg hd, wrap64_id (by omega) (by omega)]

theorem tmod_split (a : Int) : (0 ≤ a ∧ Int.tmod a 1000 = a % 1000) ∨ (a < 0 ∧ Int.tmod a 1000 = -((-a) % 1000)) := by
  rcases Int.lt_or_le a 0 with h | h
  · right
    refine ⟨h, ?_⟩
    have : Int.tmod (-(-a)) 1000 = -Int.tmod (-a) 1000 := Int.neg_tmod ..
    rw [Int.neg_neg] at this
    rw [this, Int.tmod_eq_emod_of_nonneg (by omega)]
  · exact .inl ⟨h, Int.tmod_eq_emod_of_nonneg h⟩

theorem modulo_eq (a : Int) : table_modulo.f a = some (a % 1000) := by
  unfold table_modulo.f
  rcases tmod_split a with ⟨h, e⟩ | ⟨h, e⟩ <;> rw [e]
  · rw [if_neg (by omega)]
  · split
    · rw [wrap64_id (by omega) (by omega)]; congr 1; omega
    · congr 1; omega

theorem body_eq (b o : Int) : Int.tmod (wrap64 (Int.tmod (wrap64 (Int.tmod b 1000 + Int.tmod o 1000)) 1000 + 1000)) 1000 = (b % 1000 + o % 1000) % 1000 := by
  have hb := tmod_split b
  have ho := tmod_split o
  generalize Int.tmod b 1000 = x at *
  generalize Int.tmod o 1000 = y at *
  rw [wrap64_id (x := x + y) (by omega) (by omega)]
  have hs := tmod_split (x + y)
  generalize Int.tmod (x + y) 1000 = z at *
  rw [wrap64_id (x := z + 1000) (by omega) (by omega)]
  have ht := tmod_split (z + 1000)
  generalize Int.tmod (z + 1000) 1000 = u at *
  omega

theorem sent_eq (from_ seq now body c d e : Int) : table_Sent.f from_ seq now body c d e = some (cl (cl now + cl d), from_, seq, -1, c, (body % 1000 + e % 1000) % 1000) := by
  unfold table_Sent.f
  simp only [add_eq, modulo_eq, Option.bind_some]
  rw [wrap64_id (by omega) (by omega)]
theorem rsent_eq (from_ seq now body c d e : Int) : pacelineref07_Sent.f from_ seq now body c d e = some (cl (cl now + cl d), from_, seq, -1, c, (body % 1000 + e % 1000) % 1000) := by
  unfold pacelineref07_Sent.f
  simp only [radd_eq, Option.bind_some, body_eq]

theorem TableSends : pacelinelaw07_TableSends.Pure := by
  intro a0 a1 a2 a3 a4_0 a4_1 a4_2 _ _ _ _ _ _ _
  unfold pacelinelaw07_TableSends.f
  simp only [sent_eq, rsent_eq, Option.bind_some, beq_self_eq_true, Bool.and_self, if_true]
  rw [if_pos (by omega), if_pos (by omega)]

end Go.Proofs.Ytccidadepjcjjaa.Pure
