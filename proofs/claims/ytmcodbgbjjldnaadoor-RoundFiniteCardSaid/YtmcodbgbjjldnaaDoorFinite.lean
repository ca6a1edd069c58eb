/- The plain law of RoundFinite. -/
import Derived.Test.YtmcodbgbjjldnaaDoorVal
import Derived.Test.YtmcodbgbjjldnaaDoorPrx17
set_option linter.unusedVariables false
set_option linter.unusedSimpArgs false
namespace Go.Proofs.YtmcodbgbjjldnaaDoor.Pr
open Go.RowKit Go.Proofs.YtmcodbgbjjldnaaDoorW.PrintWords Go.Proofs.YtmcodbgbjjldnaaDoorW.PrintLast Go.Proofs.YtmcodbgbjjldnaaDoorW.PrintMore

theorem decode_nan11 : value_Decode.f 11 255 = some (4, false, 0, 0, 0) := by decide +kernel
theorem e00 : ((0 : Int) != 0) = false := rfl
theorem Finite_pure (a0 : Int) (n : Bool) (l : List Int) (t v : Int) (b00 : -9223372036854775808 ≤ a0) (b01 : a0 ≤ 9223372036854775807) (hm : l.length ≤ maxLen) (hw : ∀ x ∈ l, (Lit.int .u64 x).wf = true)
    (bt0 : -9223372036854775808 ≤ t) (bt1 : t ≤ 9223372036854775807) (bv0 : -9223372036854775808 ≤ v) (bv1 : v ≤ 9223372036854775807) : ∃ k, caliperlaw08_RoundFinite.f k a0 n l t v = some true := by
  obtain ⟨l', t', v', hs, hsm⟩ := small_spec n (ws_of_wf hw) (len_of_max hm) t v
  obtain ⟨K, hK⟩ := hs
  have hlen : ((l'.length : Int) = 0) ↔ l' = [] := by
    cases l' with
    | nil => simp
    | cons x y => simp; omega
  by_cases hid : 1 ≤ a0 ∧ a0 ≤ 14
  · obtain ⟨h1, h2⟩ := hid
    have hx := Rt.of_small hsm
    obtain ⟨f1, f2, f3, f4, f5, f6, f7, f8, f9, f10, f11, f12⟩ := form_facts h1 h2
    have h11 : a0 = 11 ↔ ft a0.toNat 0 = 4 := ⟨f7, fun h => (f6 h).2.2.2.1⟩
    obtain ⟨q, ⟨Kq, hKq⟩, hq⟩ := round_Round_spec (mode := 1) h1 h2 (.inl rfl) n hx
    refine ⟨K + Kq + 1, ?_⟩
    have r0 := hK (K + Kq + 1) (by omega)
    have r1 := hKq (K + Kq + 1) (by omega)
    simp only at r0 r1
    rcases hq with ⟨q1, q2, rfl⟩ | ⟨q1, q2⟩
    · subst q1
      simp only [caliperlaw08_RoundFinite.f, shown_T, r0, forms_ok h1 h2, r1, decode_nan11, Option.bind_some, if_true, caliperlaw08_RoundFinite.j0, e00, Bool.false_eq_true, if_false]
      have k4 : ft (11 : Int).toNat 0 = 4 := rfl
      rw [k4]
      simp only [if_true]
      rcases q2 with rfl | rfl
      · split <;> rfl
      · rfl
    · have hkey : ∃ key : Nat, key ≤ mostK a0 n ∧ q = (patN a0 n key : Int) ∧ (ft a0.toNat 0 = 1 → (key = 0 ↔ l' = [])) := by
        rcases q2 with ⟨q3, rfl⟩ | ⟨a, q3, rfl⟩
        · refine ⟨mostK a0 n, Nat.le_refl _, ?_, fun _ => ⟨fun h => ?_, fun h => ?_⟩⟩
          · unfold largeN
            rw [if_pos (.inl rfl)]
          · exfalso
            cases n <;> omega
          · subst h
            rw [mag_nil] at q3
            have hz := zero_least h1 h2 (mostK a0 n)
            have hn : ¬ (n = true ∧ a0 = 11) := fun h => q1 ⟨h.2, .inl h.1⟩
            obtain ⟨_, m2, _⟩ := most_spec h1 h2 n hn
            rw [wt_mono h1 h2 hz.le m2 hz.yes] at q3
            cases q3
        · refine ⟨_, told_le h1 h2 q3.le, rfl, fun hk => ?_⟩
          unfold told
          by_cases hl : l' = []
          · subst hl
            rw [mag_nil] at q3
            have := (zero_least h1 h2 (mostK a0 n)).uniq q3
            subst this
            simp
          · by_cases ha : a = 0
            · rw [if_pos ⟨hk, ha, hl⟩]
              simp [hl]
            · rw [if_neg (fun h => ha h.2.1)]
              simp [hl, ha]
      obtain ⟨key, hk, rfl, hposit⟩ := hkey
      have hn : ¬ (n = true ∧ a0 = 11) := fun h => q1 ⟨h.2, .inl h.1⟩
      obtain ⟨b, m, e, hd, hb⟩ := decode_pat h1 h2 hk hn
      have hlb : ((l'.length : Int) == 0) = decide (l' = []) := by
        by_cases hl : l' = []
        · rw [decide_eq_true hl, beq_iff_eq.2 (hlen.2 hl)]
        · rw [decide_eq_false hl, beq_eq_false_iff_ne.2 (fun h => hl (hlen.1 h))]
      by_cases hz : key = 0 ∧ ¬ a0 = 11
      · rw [if_pos hz] at hd
        have c4 : ¬ ft a0.toNat 0 = 4 := fun h => hz.2 (h11.2 h)
        have e12 : ¬ (1 : Int) = 2 := by decide
        have e11 : ((1 : Int) == 1) = true := rfl
        simp only [caliperlaw08_RoundFinite.f, shown_T, r0, forms_ok h1 h2, r1, hd, Option.bind_some, if_true, caliperlaw08_RoundFinite.j0, e00, Bool.false_eq_true, if_false, c4, e12, e11, hlb]
        by_cases c1 : ft a0.toNat 0 = 1
        · rw [if_pos c1, decide_eq_true ((hposit c1).1 hz.1)]
          rfl
        · rw [if_neg c1]
      · rw [if_neg hz] at hd
        have e21 : ((2 : Int) == 1) = false := rfl
        have e24 : ((2 : Int) == 4) = false := rfl
        simp only [caliperlaw08_RoundFinite.f, shown_T, r0, forms_ok h1 h2, r1, hd, Option.bind_some, if_true, caliperlaw08_RoundFinite.j0, e00, Bool.false_eq_true, if_false, e21, e24, hlb]
        by_cases c4 : ft a0.toNat 0 = 4
        · have hid := h11.2 c4
          have hnn : n = false := by
            cases n with
            | false => rfl
            | true => exact absurd ⟨rfl, hid⟩ hn
          have hll : ¬ (l'.length : Int) = 0 := fun h => q1 ⟨hid, .inr (hlen.1 h)⟩
          rw [if_pos c4, if_neg hll, hnn]
          rfl
        · rw [if_neg c4]
          have hk0 : ¬ key = 0 := fun h => hz ⟨h, fun h => c4 (f7 h)⟩
          by_cases c1 : ft a0.toNat 0 = 1
          · rw [if_pos c1, decide_eq_false (fun h => hk0 ((hposit c1).2 h))]
            rfl
          · rw [if_neg c1]
  · refine ⟨K + 1, ?_⟩
    have r0 := hK (K + 1) (by omega)
    simp only at r0
    simp only [caliperlaw08_RoundFinite.f, shown_T, r0, forms_bad hid, round_Round_bad hid, Option.bind_some]
    rfl
end Go.Proofs.YtmcodbgbjjldnaaDoor.Pr
