/- The plain law of TransRounds: a number is rounded once. -/
import Derived.Test.YtnbkjlebphmpnaaDoorTurnB
import Derived.Test.YtnbkjlebphmpnaaDoorPrx8
set_option linter.unusedVariables false
set_option linter.unusedSimpArgs false
namespace Go.Proofs.YtnbkjlebphmpnaaDoor.Pr
open Go.RowKit Go.Proofs.YtnbkjlebphmpnaaDoorW.PrintWords Go.Proofs.YtnbkjlebphmpnaaDoorW.PrintLast Go.Proofs.YtnbkjlebphmpnaaDoorW.PrintMore

theorem TRounds_pure (a0 a1 : Int) (a2 : Bool) (a3 : Int) (b00 : -9223372036854775808 ≤ a0) (b01 : a0 ≤ 9223372036854775807) (b10 : -9223372036854775808 ≤ a1) (b11 : a1 ≤ 9223372036854775807) (b0 : 0 ≤ a3) (b1 : a3 ≤ 18446744073709551615) : ∃ k, caliperlaw14_TransRounds.f k a0 a1 a2 a3 = some true := by
  obtain ⟨p, rfl⟩ := Int.eq_ofNat_of_zero_le b0
  obtain ⟨K0, hK0⟩ := shown14
  have hm : (if a2 = true then (2 : Int) else 1) = 1 ∨ (if a2 = true then (2 : Int) else 1) = 2 := by cases a2 <;> simp
  have e0 : ∀ k, K0 ≤ k → caliperlaw14_TransRounds.f k a0 a1 a2 (p : Int) = caliperlaw14_TransRounds.j0 k a0 a1 (p : Int) true (if a2 = true then 2 else 1) := fun k hk => by
    have := hK0 k hk
    simp only at this
    unfold caliperlaw14_TransRounds.f
    rw [this, Option.bind_some]
    cases a2 <;> rfl
  generalize (if a2 = true then (2 : Int) else 1) = mode at *
  rcases decode_cases a0 (p := p) (by omega) with ⟨er, he, hd⟩ | ⟨h1, h2, hw, c, b, m, e, hd, hv, hcl⟩
  · refine ⟨K0 + 1 + 1, ?_⟩
    rw [e0 _ (by omega)]
    simp only [caliperlaw14_TransRounds.j0, hd, Option.bind_some]
    rw [if_neg he]
    simp only [caliperlaw14_TransRounds.j1, if_true]
  · by_cases hc : c = 1 ∨ c = 2
    · obtain ⟨l, t, hx, hr⟩ : ∃ l t, exact_Of.f c b m e = some (b, l, t, 0, true) ∧ Rt l t 0 := by
        rcases hv with h | h | h
        · omega
        · omega
        · exact h.2
      have key : ∃ r : Int × Int, Ev (fun k => trans_Turn.f k a0 a1 mode (p : Int)) r ∧ Ev (fun k => round_Round.f k a1 mode b l t 0) r := by
        by_cases ht : 1 ≤ a1 ∧ a1 ≤ 14
        · obtain ⟨q, hq, _⟩ := round_Round_spec ht.1 ht.2 hm b hr
          exact ⟨_, turn_num hd hc hx ht.1 ht.2 hm hq, hq⟩
        · exact ⟨(0, 3), Ev.of fun k => turn_bad hd ht mode k, Ev.of fun k => round_Round_bad ht mode b l t 0 k⟩
      obtain ⟨r, ⟨K1, hK1⟩, ⟨K2, hK2⟩⟩ := key
      refine ⟨K0 + K1 + K2 + 1 + 1, ?_⟩
      rw [e0 _ (by omega)]
      have r1 := hK1 (K0 + K1 + K2) (by omega)
      have r2 := hK2 (K0 + K1 + K2) (by omega)
      simp only at r1 r2
      have fin : ∀ y : Bool, y = false → caliperlaw14_TransRounds.j1 (K0 + K1 + K2 + 1) a0 a1 (p : Int) true mode y c b m e = some true := by
        rintro _ rfl
        simp only [caliperlaw14_TransRounds.j1, hx, r1, r2, Option.bind_some, if_true, Bool.false_eq_true, if_false, beq_self_eq_true]
      simp only [caliperlaw14_TransRounds.j0, hd, Option.bind_some, if_true]
      by_cases c2 : c = 2
      · rw [if_pos c2]
        exact fin _ rfl
      · rw [if_neg c2]
        refine fin _ ?_
        rw [hc.resolve_right c2]
        rfl
    · refine ⟨K0 + 1 + 1, ?_⟩
      rw [e0 _ (by omega)]
      simp only [caliperlaw14_TransRounds.j0, hd, Option.bind_some, if_true]
      have e2 : (c != 1) = true := bne_iff_ne.2 fun h => hc (.inl h)
      rw [if_neg (fun h => hc (.inr h)), e2]
      simp only [caliperlaw14_TransRounds.j1, if_true]
end Go.Proofs.YtnbkjlebphmpnaaDoor.Pr
