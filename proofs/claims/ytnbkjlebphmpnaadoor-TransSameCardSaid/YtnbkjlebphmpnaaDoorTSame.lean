/- The plain law of TransSame: in its own form a pattern is Canon of it. -/
import Derived.Test.YtnbkjlebphmpnaaDoorTurnB
import Derived.Test.YtnbkjlebphmpnaaDoorGivC
import Derived.Test.YtnbkjlebphmpnaaDoorPrxS
set_option linter.unusedVariables false
set_option linter.unusedSimpArgs false
namespace Go.Proofs.YtnbkjlebphmpnaaDoor.Pr
open Go.RowKit Go.Proofs.YtnbkjlebphmpnaaDoorW.PrintWords Go.Proofs.YtnbkjlebphmpnaaDoorW.PrintLast Go.Proofs.YtnbkjlebphmpnaaDoorW.PrintMore

theorem bit_keep {j k : Nat} (h : k < 2 ^ j) (hj : j < 64) : k &&& (18446744073709551615 - 2 ^ j) = k := by
  apply Nat.eq_of_testBit_eq
  intro i
  have hlt : 2 ^ j < 2 ^ 64 := Nat.pow_lt_pow_right (by decide) hj
  have e : 18446744073709551615 - 2 ^ j = 2 ^ 64 - (2 ^ j + 1) := by omega
  rw [e, Nat.testBit_and, Nat.testBit_two_pow_sub_succ hlt, Nat.testBit_two_pow]
  by_cases hi : i < j
  · have h64 : i < 64 := by omega
    have hij : ¬ j = i := by omega
    simp [h64, hij]
  · have : k.testBit i = false := Nat.testBit_lt_two_pow (Nat.lt_of_lt_of_le h (Nat.pow_le_pow_right (by decide) (by omega)))
    simp [this]
/-- A pattern of a form of kind 2: its key, and what it is. -/
theorem key_two {id : Int} (h1 : 1 ≤ id) (h2 : id ≤ 14) (k : ft id.toNat 0 = 2) {p : Nat} (hp : p < 2 ^ wid id) : Go.bits .andNot .u64 (p : Int) ((2 ^ (wid id - 1) : Nat) : Int) = ((partsN id p).2 : Int) ∧ (p : Int) = if (partsN id p).1 = true then ((2 ^ (wid id - 1) : Nat) : Int) + ((partsN id p).2 : Int) else ((partsN id p).2 : Int) := by
  obtain ⟨w1, w2, w3, w4⟩ := wid_pow h1 h2
  have f10 := (form_facts h1 h2).2.2.2.2.2.2.2.2.2.1
  rw [u64_andNot_nat _ _ (by omega) (by omega)]
  unfold partsN
  have n4 : ¬ ft id.toNat 0 = 4 := by omega
  by_cases hl : p < 2 ^ (wid id - 1)
  · rw [if_pos (.inr hl), bit_keep hl (by omega)]
    exact ⟨rfl, by simp⟩
  · rw [if_neg (fun h => h.elim n4 hl), if_pos k]
    have := bit_clear (j := wid id - 1) (k := p - 2 ^ (wid id - 1)) (by omega) (by omega)
    rw [show 2 ^ (wid id - 1) + (p - 2 ^ (wid id - 1)) = p by omega] at this
    rw [this]
    refine ⟨rfl, ?_⟩
    simp only [if_true]
    omega
theorem number_spec {id : Int} (h1 : 1 ≤ id) (h2 : id ≤ 14) {p : Nat} (hp : p < 2 ^ wid id) : forms_Form_number.f (ft id.toNat 0) (ft id.toNat 1) (ft id.toNat 2) (ft id.toNat 3) (ft id.toNat 4) (ft id.toNat 5) (ft id.toNat 6) (p : Int) = some (decide (¬ clsN id p = 4)) := by
  obtain ⟨f1, f2, f3, f4, f5, f6, f7, f8, f9, f10, f11, f12⟩ := form_facts h1 h2
  unfold forms_Form_number.f
  by_cases k : ft id.toNat 0 = 2
  · obtain ⟨g1, g2, g3, g4, g5, g6⟩ := f12 k
    obtain ⟨e1, _⟩ := key_two h1 h2 k hp
    have n4 : ¬ ft id.toNat 0 = 4 := by omega
    rw [if_pos k, f2, Option.bind_some, if_neg n4, e1]
    unfold clsN classF
    rw [if_pos k]
    generalize (partsN id p).2 = key
    by_cases c1 : (key : Int) ≤ ft id.toNat 4
    · rw [if_pos c1]
      have c2 : ¬ (key : Int) > ft id.toNat 4 := by omega
      simp only [c2, if_false]
      congr 1
      symm
      rw [decide_eq_true_eq]
      (repeat' split) <;> decide
    · rw [if_neg c1]
      have c2 : (key : Int) > ft id.toNat 4 := by omega
      simp only [c2, if_true]
      by_cases c3 : (key : Int) = ft id.toNat 5
      · have c4 : ¬ ft id.toNat 5 = 0 := by omega
        rw [if_pos c3, if_neg c4, beq_iff_eq.2 c3]
        rfl
      · rw [if_neg c3, beq_eq_false_iff_ne.2 c3]
        rfl
  · rw [if_neg k]
    unfold clsN classF
    rw [if_neg k]
    by_cases c1 : ft id.toNat 6 = 0
    · rw [if_pos c1, if_pos c1]
      congr 1
      symm
      rw [decide_eq_true_eq]
      (repeat' split) <;> decide
    · rw [if_neg c1, if_neg c1]
      by_cases c2 : (p : Int) = ft id.toNat 6
      · rw [if_pos c2, bne_eq_false_iff_eq.2 c2]
        rfl
      · rw [if_neg c2, bne_iff_ne.2 c2]
        congr 1
        symm
        rw [decide_eq_true_eq]
        (repeat' split) <;> decide
theorem canon_spec {id : Int} (h1 : 1 ≤ id) (h2 : id ≤ 14) {p : Nat} (hp : p < 2 ^ wid id) : forms_Canon.f id (p : Int) = some (if clsN id p = 4 then ft id.toNat 6 else (p : Int), 0) := by
  obtain ⟨w1, w2, w3, w4⟩ := wid_pow h1 h2
  unfold forms_Canon.f
  rw [fits_spec h1 h2 (by omega), if_pos hp, Option.bind_some, if_pos rfl, if_pos ⟨by omega, by omega⟩, number_spec h1 h2 hp, Option.bind_some]
  by_cases h : clsN id p = 4
  · rw [if_pos h, if_neg (by simp [h])]
  · rw [if_neg h, if_pos (by simp [h])]
theorem canon_err {id : Int} {p : Nat} (hp : p < 18446744073709551616) {er : Int} (he : er ≠ 0) (hd : value_Decode.f id (p : Int) = some (0, false, 0, 0, er)) : forms_Canon.f id (p : Int) = some (0, er) := by
  have hf : forms_Fits.f id (p : Int) = some er := by
    by_cases hid : 1 ≤ id ∧ id ≤ 14
    · by_cases hw : p < 2 ^ wid id
      · rcases decode_cases id hp with ⟨er', he', hd'⟩ | ⟨_, _, _, c, b, m, e, hd', _⟩
        · exfalso
          have h3 := decode_spec hid.1 hid.2 hw
          by_cases hc : clsN id p = 1 ∨ clsN id p = 2
          · obtain ⟨b, m, e, l, t, d1, _⟩ := num_pat hid.1 hid.2 (mode := 1) (.inl rfl) hw hc
            rw [hd'] at d1
            simp only [Option.some.injEq, Prod.mk.injEq] at d1
            exact he' d1.2.2.2.2
          · rw [if_neg (fun h => hc (.inr h)), if_neg (fun h => hc (.inl h)), hd'] at h3
            split at h3 <;> (simp only [Option.some.injEq, Prod.mk.injEq] at h3; exact he' h3.2.2.2.2)
        · rw [hd] at hd'
          simp only [Option.some.injEq, Prod.mk.injEq] at hd'
          exact absurd hd'.2.2.2.2 he
      · have := decode_big hid.1 hid.2 hp hw
        rw [hd] at this
        simp only [Option.some.injEq, Prod.mk.injEq, true_and] at this
        rw [fits_spec hid.1 hid.2 hp, if_neg hw, this]
    · have := decode_bad hid (p : Int)
      rw [hd] at this
      simp only [Option.some.injEq, Prod.mk.injEq, true_and] at this
      unfold forms_Fits.f
      rw [forms_bad hid, this]
      rfl
  unfold forms_Canon.f
  rw [hf, Option.bind_some, if_neg he]
/-- An infinity, told with Special, is itself. -/
theorem inf_large {id : Int} (h1 : 1 ≤ id) (h2 : id ≤ 14) {p : Nat} (hp : p < 2 ^ wid id) (hc : clsN id p = 3) : largeN id 2 (partsN id p).1 = (p : Int) ∧ ft id.toNat 0 = 2 := by
  obtain ⟨f1, f2, f3, f4, f5, f6, f7, f8, f9, f10, f11, f12⟩ := form_facts h1 h2
  have k : ft id.toNat 0 = 2 := by
    refine Classical.byContradiction fun k => ?_
    unfold clsN classF at hc
    rw [if_neg k] at hc
    (repeat' split at hc) <;> omega
  obtain ⟨e1, e2⟩ := key_two h1 h2 k hp
  have hk : ((partsN id p).2 : Int) = ft id.toNat 5 ∧ ¬ ft id.toNat 5 = 0 := by
    unfold clsN classF at hc
    rw [if_pos k] at hc
    (repeat' split at hc) <;> first | omega | (constructor <;> assumption)
  refine ⟨?_, k⟩
  unfold largeN
  rw [if_neg (by omega), if_neg hk.2]
  by_cases hb : (partsN id p).1 = true
  · rw [if_pos hb] at e2 ⊢
    omega
  · rw [if_neg hb] at e2 ⊢
    omega
theorem TSame_pure (a0 a1 : Int) (b00 : -9223372036854775808 ≤ a0) (b01 : a0 ≤ 9223372036854775807) (b0 : 0 ≤ a1) (b1 : a1 ≤ 18446744073709551615) : ∃ k, caliperlaw14_TransSame.f k a0 a1 = some true := by
  obtain ⟨p, rfl⟩ := Int.eq_ofNat_of_zero_le b0
  obtain ⟨K0, hK0⟩ := shown14
  have key : ∃ q er, forms_Canon.f a0 (p : Int) = some (q, er) ∧ Ev (fun k => trans_Turn.f k a0 a0 2 (p : Int)) (q, er) := by
    rcases decode_cases a0 (p := p) (by omega) with ⟨er, he, hd⟩ | ⟨h1, h2, hw, c, b, m, e, hd, hv, hcl⟩
    · exact ⟨0, er, canon_err (by omega) he hd, Ev.of fun k => turn_err he hd a0 2 k⟩
    · refine ⟨_, 0, canon_spec h1 h2 hw, ?_⟩
      by_cases hc : clsN a0 p = 1 ∨ clsN a0 p = 2
      · obtain ⟨b', m', e', l, t, d1, d2, hr, hR, _⟩ := num_pat h1 h2 (mode := 2) (.inr rfl) hw hc
        rw [if_neg (by omega)]
        exact turn_num d1 hc d2 h1 h2 (.inr rfl) hR
      · obtain ⟨q, hq, hV⟩ := turn_spec hd hv h1 h2 (mode := 2) (.inr rfl)
        rcases hV with ⟨rfl, hV⟩ | ⟨rfl, hV⟩ | ⟨hV, _⟩
        · rw [if_pos hcl.symm, ← hV]
          exact hq
        · obtain ⟨g1, g2⟩ := inf_large h1 h2 hw hcl.symm
          have hb : b = (partsN a0 p).1 := by
            have h3 := decode_spec h1 h2 hw
            rw [← hcl, if_neg (by decide), if_neg (by decide), if_pos rfl, hd] at h3
            simp only [Option.some.injEq, Prod.mk.injEq] at h3
            exact h3.2.1
          rw [if_neg (by omega)]
          rcases hV with ⟨hk, _⟩ | ⟨_, hV⟩
          · omega
          · have hqp : q = (p : Int) := by rw [hV, hb, g1]
            rw [hqp] at hq
            exact hq
        · rw [hcl] at hV
          exact absurd hV hc
  obtain ⟨q, er, hC, K1, hK1⟩ := key
  refine ⟨K0 + K1, ?_⟩
  have r0 := hK0 (K0 + K1) (by omega)
  have r1 := hK1 (K0 + K1) (by omega)
  simp only at r0 r1
  simp only [caliperlaw14_TransSame.f, r0, hC, r1, Option.bind_some, if_true, beq_self_eq_true]
end Go.Proofs.YtnbkjlebphmpnaaDoor.Pr
