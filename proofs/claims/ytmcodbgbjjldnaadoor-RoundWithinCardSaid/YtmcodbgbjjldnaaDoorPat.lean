/- Patterns as whole numbers: value.Pattern, and the parts of a pattern. -/
import Derived.Test.YtmcodbgbjjldnaaDoorNear
import Derived.Test.YtmcodbgbjjldnaaDoorGivG
import Derived.Laws.BitsAllLaws
set_option linter.unusedVariables false
set_option linter.unusedSimpArgs false
namespace Go.Proofs.YtmcodbgbjjldnaaDoor.Pr
open Go.RowKit Go.Proofs.YtmcodbgbjjldnaaDoorW.PrintWords Go.Proofs.YtmcodbgbjjldnaaDoorW.PrintLast Go.Proofs.YtmcodbgbjjldnaaDoorW.PrintMore

theorem bit_join {j k : Nat} (h : k < 2 ^ j) : k ||| 2 ^ j = 2 ^ j + k := by
  have := Nat.two_pow_add_eq_or_of_lt h 1
  rw [Nat.mul_one] at this
  rw [Nat.or_comm, ← this]
theorem bit_and {j p : Nat} (h : p < 2 ^ (j + 1)) : p &&& 2 ^ j = if p < 2 ^ j then 0 else 2 ^ j := by
  rw [nat_bit]
  have h2 := Nat.pow_succ (n := 2) (m := j)
  have h3 := Nat.two_pow_pos j
  by_cases hp : p < 2 ^ j
  · rw [if_pos hp, Nat.div_eq_of_lt hp]
    simp
  · rw [if_neg hp]
    have : p / 2 ^ j = 1 := Nat.div_eq_of_lt_le (by omega) (by omega)
    rw [this]
    simp
theorem bit_clear {j k : Nat} (h : k < 2 ^ j) (hj : j < 64) : (2 ^ j + k) &&& (18446744073709551615 - 2 ^ j) = k := by
  rw [← bit_join h]
  apply Nat.eq_of_testBit_eq
  intro i
  have hlt : 2 ^ j < 2 ^ 64 := Nat.pow_lt_pow_right (by decide) hj
  have e : 18446744073709551615 - 2 ^ j = 2 ^ 64 - (2 ^ j + 1) := by omega
  rw [e, Nat.testBit_and, Nat.testBit_or, Nat.testBit_two_pow, Nat.testBit_two_pow_sub_succ hlt, Nat.testBit_two_pow]
  by_cases hi : j = i
  · subst hi
    rw [Nat.testBit_lt_two_pow h]
    simp
  · by_cases h64 : i < 64
    · simp [hi, h64]
    · have : k.testBit i = false := Nat.testBit_lt_two_pow (Nat.lt_of_lt_of_le h (Nat.pow_le_pow_right (by decide) (by omega)))
      simp [hi, this]
theorem fits_bits {p w : Nat} (hp : p < 18446744073709551616) (hw : w ≤ 64) : (p &&& (18446744073709551615 - (2 ^ w - 1)) = 0) ↔ p < 2 ^ w := by
  have h1 := Nat.two_pow_pos w
  have h2 : 2 ^ w ≤ 2 ^ 64 := Nat.pow_le_pow_right (by decide) hw
  have e : 18446744073709551615 - (2 ^ w - 1) = 2 ^ 64 - ((2 ^ w - 1) + 1) := by omega
  rw [e]
  have tb : ∀ i, (p &&& (2 ^ 64 - ((2 ^ w - 1) + 1))).testBit i = (p.testBit i && (decide (i < 64) && !(decide (i < w)))) := fun i => by
    rw [Nat.testBit_and, Nat.testBit_two_pow_sub_succ (by omega), Nat.testBit_two_pow_sub_one]
  constructor
  · intro h
    apply Nat.lt_pow_two_of_testBit
    intro i hi
    have := tb i
    rw [h, Nat.zero_testBit] at this
    by_cases h64 : i < 64
    · have hw' : ¬ i < w := by omega
      simpa [h64, hw'] using this.symm
    · exact Nat.testBit_lt_two_pow (Nat.lt_of_lt_of_le hp (by have := Nat.pow_le_pow_right (n := 2) (by decide) (show 64 ≤ i by omega); omega))
  · intro h
    apply Nat.eq_of_testBit_eq
    intro i
    rw [tb, Nat.zero_testBit]
    by_cases hi : i < w
    · simp [hi]
    · rw [Nat.testBit_lt_two_pow (Nat.lt_of_lt_of_le h (Nat.pow_le_pow_right (by decide) (by omega)))]
      simp
theorem neg_mod {key w : Nat} (hk : key ≤ 2 ^ w) (hw : w ≤ 64) : ((18446744073709551616 - key) % 18446744073709551616) % 2 ^ w = (2 ^ w - key) % 2 ^ w := by
  have h1 := Nat.two_pow_pos w
  have h2 : 2 ^ w * 2 ^ (64 - w) = 18446744073709551616 := by rw [← Nat.pow_add, show w + (64 - w) = 64 by omega]
  have h3 := Nat.two_pow_pos (64 - w)
  generalize hc : (2 : Nat) ^ (64 - w) = c at *
  generalize (2 : Nat) ^ w = P at *
  by_cases h0 : key = 0
  · subst h0
    simp
  · have hle : P * 1 ≤ P * c := Nat.mul_le_mul_left _ h3
    rw [Nat.mod_eq_of_lt (a := 18446744073709551616 - key) (by omega)]
    have e : 18446744073709551616 - key = (P - key) + P * (c - 1) := by
      rw [Nat.mul_sub, h2]
      omega
    rw [e, Nat.add_mul_mod_self_left]
theorem wrap_neg (key : Nat) (h : key ≤ 18446744073709551616) : IntKind.u64.wrap (-(key : Int)) = (((18446744073709551616 - key) % 18446744073709551616 : Nat) : Int) := by
  have : IntKind.u64.wrap (-(key : Int)) = (-(key : Int)) % 18446744073709551616 := by first | rfl | simp [IntKind.wrap]
  rw [this]
  omega

theorem form_facts {id : Int} (h1 : 1 ≤ id) (h2 : id ≤ 14) :
    forms_Form_Mask.f (ft id.toNat 0) (ft id.toNat 1) (ft id.toNat 2) (ft id.toNat 3) (ft id.toNat 4) (ft id.toNat 5) (ft id.toNat 6) = some ((2 ^ wid id - 1 : Nat) : Int) ∧
    forms_Form_Sign.f (ft id.toNat 0) (ft id.toNat 1) (ft id.toNat 2) (ft id.toNat 3) (ft id.toNat 4) (ft id.toNat 5) (ft id.toNat 6) = some (if ft id.toNat 0 = 4 then 0 else ((2 ^ (wid id - 1) : Nat) : Int)) ∧
    (ft id.toNat 0 = 2 → mostK id true < 2 ^ (wid id - 1) ∧ mostK id false < 2 ^ (wid id - 1)) ∧
    (ft id.toNat 0 = 1 → mostK id true + 1 = 2 ^ (wid id - 1) ∧ mostK id false + 1 = 2 ^ (wid id - 1) ∧ ft id.toNat 6 = ((2 ^ (wid id - 1) : Nat) : Int) ∧ ft id.toNat 5 = 0) ∧
    (ft id.toNat 0 = 3 → mostK id true = 2 ^ (wid id - 1) ∧ mostK id false + 1 = 2 ^ (wid id - 1) ∧ ft id.toNat 6 = 0 ∧ ft id.toNat 5 = 0 ∧ id = 10) ∧
    (ft id.toNat 0 = 4 → mostK id false = 254 ∧ ft id.toNat 6 = 255 ∧ ft id.toNat 5 = 0 ∧ id = 11 ∧ wid id = 8) ∧ (id = 11 → ft id.toNat 0 = 4) ∧ (id = 10 → ft id.toNat 0 = 3) ∧
    (1 ≤ ft id.toNat 0 ∧ ft id.toNat 0 ≤ 4) ∧ 4 ≤ wid id ∧ (1 ≤ mostK id false ∧ 1 ≤ mostK id true) ∧
    (ft id.toNat 0 = 2 → ft id.toNat 4 = (mostK id false : Int) ∧ mostK id true = mostK id false ∧ (ft id.toNat 5 = 0 ∨ ft id.toNat 5 = (mostK id false : Int) + 1) ∧ (ft id.toNat 6 = 0 ∨ ((mostK id false : Int) < ft id.toNat 6 ∧ ft id.toNat 6 < ((2 ^ (wid id - 1) : Nat) : Int))) ∧ (ft id.toNat 6 = 0 → ft id.toNat 5 = 0) ∧ (ft id.toNat 5 ≠ 0 → ft id.toNat 5 ≠ ft id.toNat 6)) := by
  obtain rfl | rfl | rfl | rfl | rfl | rfl | rfl | rfl | rfl | rfl | rfl | rfl | rfl | rfl : id = 1 ∨ id = 2 ∨ id = 3 ∨ id = 4 ∨ id = 5 ∨ id = 6 ∨ id = 7 ∨ id = 8 ∨ id = 9 ∨ id = 10 ∨ id = 11 ∨ id = 12 ∨ id = 13 ∨ id = 14 := by omega
  all_goals exact ⟨by decide +kernel, by decide +kernel, by decide +kernel, by decide +kernel, by decide +kernel, by decide +kernel, by decide +kernel, by decide +kernel, by decide +kernel, by decide +kernel, by decide +kernel, by decide +kernel⟩

def patN (id : Int) (neg : Bool) (key : Nat) : Nat := if neg = true then (if ft id.toNat 0 = 2 then 2 ^ (wid id - 1) + key else (2 ^ wid id - key) % 2 ^ wid id) else key
theorem wid_pow {id : Int} (h1 : 1 ≤ id) (h2 : id ≤ 14) : 2 ^ wid id = 2 ^ (wid id - 1) * 2 ∧ 2 ^ wid id ≤ 18446744073709551616 ∧ 0 < 2 ^ (wid id - 1) ∧ wid id ≤ 64 := by
  obtain ⟨_, _, _, m4, m5, _⟩ := most_spec h1 h2 false (by simp)
  obtain ⟨c, hc⟩ : ∃ c, wid id = c + 1 := ⟨wid id - 1, by omega⟩
  have h3 : 2 ^ wid id ≤ 2 ^ 64 := Nat.pow_le_pow_right (by decide) m5
  refine ⟨?_, h3, Nat.two_pow_pos _, m5⟩
  rw [hc, Nat.pow_succ, Nat.add_sub_cancel]
theorem patN_lt {id : Int} (h1 : 1 ≤ id) (h2 : id ≤ 14) {neg : Bool} {key : Nat} (hk : key ≤ mostK id neg) (hn : ¬ (neg = true ∧ id = 11)) : patN id neg key < 2 ^ wid id := by
  obtain ⟨m1, m2, m3, m4, m5, m6⟩ := most_spec h1 h2 neg hn
  obtain ⟨w1, w2, w3, w4⟩ := wid_pow h1 h2
  unfold patN
  cases neg with
  | false => simp; omega
  | true =>
    rw [if_pos rfl]
    by_cases hk2 : ft id.toNat 0 = 2
    · rw [if_pos hk2]
      have := ((form_facts h1 h2).2.2.1 hk2).1
      omega
    · rw [if_neg hk2]
      exact Nat.mod_lt _ (by omega)
theorem pat_spec {id : Int} (h1 : 1 ≤ id) (h2 : id ≤ 14) {neg : Bool} {key : Nat} (hk : key ≤ mostK id neg) (hn : ¬ (neg = true ∧ id = 11)) : value_Pattern.f id neg (key : Int) = some ((patN id neg key : Int), 0) := by
  obtain ⟨m1, m2, m3, m4, m5, m6⟩ := most_spec h1 h2 neg hn
  obtain ⟨w1, w2, w3, w4⟩ := wid_pow h1 h2
  obtain ⟨f1, f2, f3, f4, f5, f6, f7, _⟩ := form_facts h1 h2
  unfold value_Pattern.f
  rw [m1, Option.bind_some]
  simp only [if_true]
  rw [if_neg (by omega), forms_ok h1 h2, Option.bind_some]
  unfold value_Pattern.g patN
  cases neg with
  | false => rfl
  | true =>
    simp only [if_true]
    have k4 : ¬ ft id.toNat 0 = 4 := fun h => hn ⟨rfl, (f6 h).2.2.2.1⟩
    by_cases hk2 : ft id.toNat 0 = 2
    · rw [if_pos hk2, if_pos hk2, f2, if_neg k4, Option.bind_some]
      have := (f3 hk2).1
      have h3 := bit_join (j := wid id - 1) (k := key) (by omega)
      rw [u64_or_nat _ _ (by omega) (by omega), h3]
    · rw [if_neg hk2, if_neg hk2, f1, Option.bind_some]
      have hm : mostK id true < 2 ^ wid id := m3
      rw [wrap_neg _ (by omega), u64_and_nat _ _ (by omega) (by omega), Nat.and_two_pow_sub_one_eq_mod, neg_mod (by omega) w4]

def partsN (id : Int) (p : Nat) : Bool × Nat := if ft id.toNat 0 = 4 ∨ p < 2 ^ (wid id - 1) then (false, p) else if ft id.toNat 0 = 2 then (true, p - 2 ^ (wid id - 1)) else (true, 2 ^ wid id - p)
theorem parts_spec {id : Int} (h1 : 1 ≤ id) (h2 : id ≤ 14) {p : Nat} (hp : p < 2 ^ wid id) :
    partsF (ft id.toNat 0) (ft id.toNat 1) (ft id.toNat 2) (ft id.toNat 3) (ft id.toNat 4) (ft id.toNat 5) (ft id.toNat 6) (p : Int) = some ((partsN id p).1, ((partsN id p).2 : Int)) := by
  obtain ⟨w1, w2, w3, w4⟩ := wid_pow h1 h2
  obtain ⟨f1, f2, f3, f4, f5, f6, f7, f8, f9, f10, _⟩ := form_facts h1 h2
  unfold partsF partsN
  rw [f2, Option.bind_some, f1]
  by_cases k4 : ft id.toNat 0 = 4
  · rw [if_pos k4]
    have e : Go.bits .and .u64 (p : Int) 0 = 0 := by
      have := u64_and_nat p 0 (by omega) (by decide)
      rw [Nat.and_zero] at this
      exact this
    have hor : ft id.toNat 0 = 4 ∨ p < 2 ^ (wid id - 1) := .inl k4
    rw [if_pos e, if_pos hor]
  · rw [if_neg k4, u64_and_nat _ _ (by omega) (by omega), bit_and (j := wid id - 1) (by rw [show wid id - 1 + 1 = wid id by omega]; exact hp)]
    by_cases hlt : p < 2 ^ (wid id - 1)
    · have hor : ft id.toNat 0 = 4 ∨ p < 2 ^ (wid id - 1) := .inr hlt
      rw [if_pos hlt, if_pos hor]
      rfl
    · rw [if_neg hlt, if_neg (by omega), if_neg (fun h : ft id.toNat 0 = 4 ∨ p < 2 ^ (wid id - 1) => h.elim k4 hlt)]
      by_cases k2 : ft id.toNat 0 = 2
      · rw [if_pos k2, if_pos k2, u64_andNot_nat _ _ (by omega) (by omega)]
        have hc := bit_clear (j := wid id - 1) (k := p - 2 ^ (wid id - 1)) (by omega) (by omega)
        rw [show 2 ^ (wid id - 1) + (p - 2 ^ (wid id - 1)) = p by omega] at hc
        rw [hc]
      · rw [if_neg k2, if_neg k2, Option.bind_some, wrap_neg _ (by omega), u64_and_nat _ _ (by omega) (by omega), Nat.and_two_pow_sub_one_eq_mod, neg_mod (by omega) w4, Nat.mod_eq_of_lt (by omega)]
/-- There and back. -/
theorem parts_pat {id : Int} (h1 : 1 ≤ id) (h2 : id ≤ 14) {neg : Bool} {key : Nat} (hk : key ≤ mostK id neg) (hn : ¬ (neg = true ∧ id = 11)) :
    partsN id (patN id neg key) = if neg = true ∧ ¬ ft id.toNat 0 = 2 ∧ key = 0 then (false, 0) else (neg, key) := by
  obtain ⟨m1, m2, m3, m4, m5, m6⟩ := most_spec h1 h2 neg hn
  obtain ⟨w1, w2, w3, w4⟩ := wid_pow h1 h2
  obtain ⟨f1, f2, f3, f4, f5, f6, f7, f8, f9, f10, _⟩ := form_facts h1 h2
  unfold partsN patN
  cases neg with
  | false =>
    have hlt : ft id.toNat 0 = 4 ∨ key < 2 ^ (wid id - 1) := by
      rcases (show ft id.toNat 0 = 1 ∨ ft id.toNat 0 = 2 ∨ ft id.toNat 0 = 3 ∨ ft id.toNat 0 = 4 by omega) with h | h | h | h
      · have := (f4 h).2.1; exact .inr (by omega)
      · have := (f3 h).2; exact .inr (by omega)
      · have := (f5 h).2.1; exact .inr (by omega)
      · exact .inl h
    simp only [Bool.false_eq_true, if_false, false_and]
    rw [if_pos hlt]
  | true =>
    have k4 : ¬ ft id.toNat 0 = 4 := fun h => hn ⟨rfl, (f6 h).2.2.2.1⟩
    simp only [if_true, true_and]
    by_cases k2 : ft id.toNat 0 = 2
    · have := (f3 k2).1
      rw [if_pos k2, if_neg (by omega), if_pos k2, if_neg (by omega), Nat.add_sub_cancel_left]
    · have hle : mostK id true ≤ 2 ^ (wid id - 1) := by
        rcases (show ft id.toNat 0 = 1 ∨ ft id.toNat 0 = 3 by omega) with h | h
        · have := (f4 h).1; omega
        · have := (f5 h).1; omega
      rw [if_neg k2]
      by_cases h0 : key = 0
      · subst h0
        rw [Nat.sub_zero, Nat.mod_self, if_pos (by omega), if_pos ⟨k2, rfl⟩]
      · rw [Nat.mod_eq_of_lt (a := 2 ^ wid id - key) (by omega), if_neg (by omega), if_neg k2, if_neg (by omega)]
        congr 1
        omega

end Go.Proofs.YtmcodbgbjjldnaaDoor.Pr
