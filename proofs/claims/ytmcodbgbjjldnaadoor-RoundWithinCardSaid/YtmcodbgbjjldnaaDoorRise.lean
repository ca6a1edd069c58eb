/- The plain law of value.Between: the boundaries rise. -/
import Derived.Test.YtmcodbgbjjldnaaDoorLad
set_option linter.unusedVariables false
set_option linter.unusedSimpArgs false
namespace Go.Proofs.YtmcodbgbjjldnaaDoor.Pr
open Go.RowKit Go.Proofs.YtmcodbgbjjldnaaDoorW.PrintWords Go.Proofs.YtmcodbgbjjldnaaDoorW.PrintLast Go.Proofs.YtmcodbgbjjldnaaDoorW.PrintMore

/-- What Between tells of key k: m·2^e; bv: the same in one whole number, 2^5000 times as great. -/
def BetOk (id k : Int) (m : Nat) (e : Int) : Prop := value_Between.f id k = some ((m : Int), e, 0) ∧ 0 < m ∧ m < 18446744073709551616 ∧ -5000 ≤ e ∧ e ≤ 5000
def bval (m : Nat) (e : Int) : Nat := m * 2 ^ (e + 5000).toNat

theorem of_id {id q1 q2 q3 q4 q5 q6 q7 : Int} (h1 : 1 ≤ id) (h2 : id ≤ 14) (h : (ft id.toNat 0, ft id.toNat 1, ft id.toNat 2, ft id.toNat 3, ft id.toNat 4, ft id.toNat 5, ft id.toNat 6) = (q1, q2, q3, q4, q5, q6, q7)) : forms_Of.f id = some (q1, q2, q3, q4, q5, q6, q7, 0) := by
  simp only [Prod.mk.injEq] at h
  obtain ⟨rfl, rfl, rfl, rfl, rfl, rfl, rfl⟩ := h
  unfold forms_Of.f
  rw [if_neg (by omega), if_neg (by omega)]

/-- A posit's boundaries. -/
theorem posit_between {id : Int} {n : Nat} (top : Nat) {q7 : Int} (n2 : 2 ≤ n) (hn : n ≤ 63) (ht : top + 1 = 2 ^ n) (hof : forms_Of.f id = some (1, (n : Int) + 1, 0, 0, (top : Int), 0, q7, 0)) {k : Nat} (hk : k ≤ top) :
    ∃ m e r left rest, BetOk id (k : Int) m e ∧ Cal.PS (n + 1) (2 * k + 1) r left rest ∧ bval m e = Cal.pv r left rest * 2 ^ (5000 - 4 * (n + 1) - 62) := by
  have hp := pow_lt64 (n := n) hn
  have h2n : 2 ^ (n + 1) = 2 ^ n * 2 := Nat.pow_succ ..
  have h63 := Nat.pow_le_pow_right (n := 2) (by decide) hn
  obtain ⟨r, left, rest, hps⟩ := Cal.PS.exists (n + 1) (2 * k + 1) (by omega) (by omega) (by omega)
  obtain ⟨s, m, v1, v2, v3, v4, v5⟩ := posit_value_spec (n := n + 1) (by omega) (by omega) (by omega) hps
  refine ⟨m, (s : Int) - 4 * ((n + 1 : Nat) : Int) - 62, r, left, rest, ⟨?_, v3, v4, by omega, by omega⟩, hps, ?_⟩
  · have e1 : IntKind.u64.wrap (IntKind.u64.wrap (2 * (k : Int)) + 1) = ((2 * k + 1 : Nat) : Int) := by
      rw [wu64 (x := 2 * (k : Int)) (by omega) (by omega), wu64 (by omega) (by omega)]; omega
    have e2 : wrap64 ((n : Int) + 1 + 1) = ((n + 1 : Nat) : Int) + 1 := by rw [w64 (by clear e1; omega) (by clear e1; omega)]; clear e1; omega
    have hf : fitsE (k : Int) 1 (top : Int) 0 = 0 := by
      unfold fitsE
      clear e1 e2
      rw [if_pos rfl, if_neg (by omega), if_neg (by omega)]
    unfold value_Between.f
    rw [hof, Option.bind_some]
    simp only [value_Between.g, hf, if_true, numF, e1, e2]
    rw [v1]
    rfl
  · unfold bval
    rw [← v2, Nat.mul_assoc, ← Nat.pow_add]
    congr 2
    omega

theorem key_more {k : Nat} (hk : k < 9223372036854775808) : IntKind.u64.wrap (IntKind.u64.wrap (2 * (k : Int)) + 1) = ((2 * k + 1 : Nat) : Int) := by
  rw [wu64 (x := 2 * (k : Int)) (by omega) (by omega), wu64 (by omega) (by omega)]; omega
theorem fits_ok {k top : Nat} {q1 : Int} (h3 : ¬ q1 = 3) (hk : k ≤ top) : fitsE (k : Int) q1 (top : Int) 0 = 0 := by
  unfold fitsE
  rw [if_pos rfl, if_neg h3, if_neg (by omega)]
/-- A small float's boundaries. -/
theorem mini_between {id : Int} {man bias top : Nat} {q2 q6 q7 : Int} (hm : man ≤ 52) (hb : bias ≤ 1023) (ht : top < 9223372036854775808) (hq : (2 * top + 1) / 2 ^ (man + 1) ≤ 4095) (hof : forms_Of.f id = some (2, q2, (man : Int), (bias : Int), (top : Int), q6, q7, 0)) {k : Nat} (hk : k ≤ top) :
    ∃ m e, BetOk id (k : Int) m e ∧ bval m e = Cal.mv (man + 1) (2 * k + 1) * 2 ^ (5000 - bias - man) := by
  have hq2 : (2 * k + 1) / 2 ^ (man + 1) ≤ 4095 := Nat.le_trans (Nat.div_le_div_right (by omega)) hq
  obtain ⟨s, m, v1, v2, v3, v4, v5⟩ := mini_Value_spec (man := man + 1) (bias := bias) (key := 2 * k + 1) (by omega) (by omega) (by omega) (by omega) hq2
  refine ⟨m, 1 - (bias : Int) - ((man + 1 : Nat) : Int) + (s : Int), ⟨?_, v3, v4, by omega, by omega⟩, ?_⟩
  · have e1 := key_more (k := k) (by omega)
    have e2 : wrap64 ((man : Int) + 1) = ((man + 1 : Nat) : Int) := by rw [w64 (by clear e1; omega) (by clear e1; omega)]; rfl
    have hf := fits_ok (q1 := 2) (by decide) hk
    unfold value_Between.f
    rw [hof, Option.bind_some]
    simp only [value_Between.g, hf, if_true, numF, e1, e2]
    rw [if_neg (by decide), v1]
    rfl
  · unfold bval
    rw [← v2, Nat.mul_assoc, ← Nat.pow_add]
    congr 2
    omega
/-- A scale's boundaries (E8M0). -/
theorem scale_between {id : Int} {top : Nat} {q2 q3 q6 q7 : Int} (ht : top ≤ 254) (hof : forms_Of.f id = some (4, q2, q3, 127, (top : Int), q6, q7, 0)) {k : Nat} (hk : k ≤ top) :
    ∃ m e, BetOk id (k : Int) m e ∧ bval m e = 3 * 2 ^ (k + 4872) := by
  refine ⟨3, (k : Int) - 128, ⟨?_, by decide, by decide, by omega, by omega⟩, ?_⟩
  · have e1 := key_more (k := k) (by omega)
    have e3 : ((2 * k + 1 : Nat) : Int) / 2 = (k : Int) := by clear e1; omega
    have e2 : wrap64 (wrap64 (wrap64 (k : Int) - 127) - 1) = (k : Int) - 128 := by
      clear e1 e3
      rw [w64 (x := (k : Int)) (by omega) (by omega), w64 (x := (k : Int) - 127) (by omega) (by omega), w64 (by omega) (by omega)]
      omega
    have hf := fits_ok (q1 := 4) (by decide) hk
    unfold value_Between.f
    rw [hof, Option.bind_some]
    simp only [value_Between.g, hf, if_true, numF, e1, e3, e2]
    rfl
  · unfold bval
    rw [show ((k : Int) - 128 + 5000).toNat = k + 4872 by omega]

/-- Int8's boundaries (below nought there is one more). -/
theorem turned_between {id : Int} {top : Nat} {q2 q4 q6 q7 : Int} (ht : top ≤ 1000) (hof : forms_Of.f id = some (3, q2, 6, q4, (top : Int), q6, q7, 0)) {k : Nat} (hk : k ≤ top + 1) :
    ∃ m e, BetOk id (k : Int) m e ∧ bval m e = (2 * k + 1) * 2 ^ 4993 := by
  obtain ⟨t, m, v1, v2, v3, v4⟩ := value_odd_spec (x := 2 * k + 1) (e := -7) (by omega) (by omega) (by omega)
  have hm : m ≤ 2 * k + 1 := by
    have := Nat.le_mul_of_pos_right m (Nat.two_pow_pos t)
    omega
  refine ⟨m, -7 + (t : Int), ⟨?_, v4, by omega, by omega, by omega⟩, ?_⟩
  · have e1 := key_more (k := k) (by omega)
    have e2 : wrap64 (wrap64 (-6) - 1) = -7 := by
      clear e1
      rw [w64 (x := -6) (by decide) (by decide), w64 (by decide) (by decide)]; rfl
    have e3 : IntKind.u64.wrap ((top : Int) + 1) = ((top + 1 : Nat) : Int) := by
      clear e1 e2
      rw [wu64 (by omega) (by omega)]; rfl
    have hf : fitsE (k : Int) 3 (top : Int) 0 = 0 := by
      unfold fitsE
      rw [if_pos rfl, if_pos rfl, e3]
      clear e1 e2 e3
      rw [if_neg (by omega)]
    unfold value_Between.f
    rw [hof, Option.bind_some]
    simp only [value_Between.g, hf, if_true, numF, e1, e2]
    rw [if_neg (by decide), if_neg (by decide), v1]
    rfl
  · unfold bval
    rw [show (-7 + (t : Int) + 5000).toNat = t + 4993 by omega, Nat.pow_add, ← Nat.mul_assoc, ← v3]

/-- The boundaries behind the keys up to T are there, and rise. -/
def Lad (id : Int) (T : Nat) : Prop := (∀ k : Nat, k ≤ T → ∃ m e, BetOk id (k : Int) m e) ∧ ∀ (k k' m m' : Nat) (e e' : Int), k < k' → k' ≤ T → BetOk id (k : Int) m e → BetOk id (k' : Int) m' e' → bval m e < bval m' e'
theorem BetOk.uniq {id k : Int} {m m' : Nat} {e e' : Int} (h : BetOk id k m e) (h' : BetOk id k m' e') : m = m' ∧ e = e' := by
  have := h.1.symm.trans h'.1
  simp only [Option.some.injEq, Prod.mk.injEq] at this
  exact ⟨by omega, this.2.1⟩
theorem lad_of {id : Int} {T : Nat} (f : Nat → Nat) (h : ∀ k : Nat, k ≤ T → ∃ m e, BetOk id (k : Int) m e ∧ bval m e = f k) (hf : ∀ k k', k < k' → k' ≤ T → f k < f k') : Lad id T := by
  refine ⟨fun k hk => ?_, fun k k' m m' e e' hlt hT h1 h2 => ?_⟩
  · obtain ⟨m, e, h1, _⟩ := h k hk
    exact ⟨m, e, h1⟩
  · obtain ⟨a, b, h3, h4⟩ := h k (by omega)
    obtain ⟨a', b', h5, h6⟩ := h k' hT
    obtain ⟨rfl, rfl⟩ := h1.uniq h3
    obtain ⟨rfl, rfl⟩ := h2.uniq h5
    rw [h4, h6]
    exact hf k k' hlt hT
theorem lad_mini {id : Int} {man bias top : Nat} {q2 q6 q7 : Int} (hm : man ≤ 52) (hb : bias ≤ 1023) (ht : top < 9223372036854775808) (hq : (2 * top + 1) / 2 ^ (man + 1) ≤ 4095) (hof : forms_Of.f id = some (2, q2, (man : Int), (bias : Int), (top : Int), q6, q7, 0)) : Lad id top :=
  lad_of (fun k => Cal.mv (man + 1) (2 * k + 1) * 2 ^ (5000 - bias - man)) (fun k hk => mini_between hm hb ht hq hof hk) (fun k k' h _ => Nat.mul_lt_mul_of_pos_right (Cal.mv_mono _ _ _ (by omega)) (Nat.two_pow_pos _))
theorem lad_scale {id : Int} {top : Nat} {q2 q3 q6 q7 : Int} (ht : top ≤ 254) (hof : forms_Of.f id = some (4, q2, q3, 127, (top : Int), q6, q7, 0)) : Lad id top :=
  lad_of (fun k => 3 * 2 ^ (k + 4872)) (fun k hk => scale_between ht hof hk) (fun k k' h _ => Nat.mul_lt_mul_of_pos_left (Nat.pow_lt_pow_right (by decide) (by omega)) (by decide))
theorem mul_pow_lt {a b n : Nat} (h : a < b) : a * 2 ^ n < b * 2 ^ n := Nat.mul_lt_mul_of_pos_right h (Nat.two_pow_pos n)
theorem odd_lt {k k' : Nat} (h : k < k') : 2 * k + 1 < 2 * k' + 1 := by omega
theorem lad_turned {id : Int} {top : Nat} {q2 q4 q6 q7 : Int} (ht : top ≤ 1000) (hof : forms_Of.f id = some (3, q2, 6, q4, (top : Int), q6, q7, 0)) : Lad id (top + 1) :=
  lad_of (fun k => (2 * k + 1) * 2 ^ 4993) (fun k hk => turned_between ht hof hk) (fun k k' h _ => mul_pow_lt (n := 4993) (odd_lt h))
theorem lad_posit {id : Int} {n : Nat} (top : Nat) {q7 : Int} (n2 : 2 ≤ n) (hn : n ≤ 63) (ht : top + 1 = 2 ^ n) (hof : forms_Of.f id = some (1, (n : Int) + 1, 0, 0, (top : Int), 0, q7, 0)) : Lad id top := by
  refine ⟨fun k hk => ?_, fun k k' m m' e e' hlt hT h1 h2 => ?_⟩
  · obtain ⟨m, e, _, _, _, h1, _⟩ := posit_between top n2 hn ht hof hk
    exact ⟨m, e, h1⟩
  · obtain ⟨a, b, r, l, s, h3, p3, h4⟩ := posit_between top n2 hn ht hof (show k ≤ top by omega)
    obtain ⟨a', b', r', l', s', h5, p5, h6⟩ := posit_between top n2 hn ht hof hT
    obtain ⟨rfl, rfl⟩ := h1.uniq h3
    obtain ⟨rfl, rfl⟩ := h2.uniq h5
    rw [h4, h6]
    exact Nat.mul_lt_mul_of_pos_right (Cal.pv_mono (by omega) p3 p5 (by omega)) (Nat.two_pow_pos _)

/-- The greatest key of a form's boundaries. -/
def topK (id : Int) : Nat := (ft id.toNat 4).toNat + (if id = 10 then 1 else 0)
theorem lad1 : Lad 1 127 := lad_posit (q7 := 128) (n := 7) 127 (by decide) (by decide) (by decide +kernel) (of_id (by decide) (by decide) (by rfl))
theorem lad2 : Lad 2 32767 := lad_posit (q7 := 32768) (n := 15) 32767 (by decide) (by decide) (by decide +kernel) (of_id (by decide) (by decide) (by rfl))
theorem lad3 : Lad 3 2147483647 := lad_posit (q7 := 2147483648) (n := 31) 2147483647 (by decide) (by decide) (by decide +kernel) (of_id (by decide) (by decide) (by rfl))
theorem lad4 : Lad 4 9223372036854775807 := lad_posit (q7 := 9223372036854775808) (n := 63) 9223372036854775807 (by decide) (by decide) (by decide +kernel) (of_id (by decide) (by decide) (by rfl))
theorem lad5 : Lad 5 126 := lad_mini (q2 := 8) (q6 := 0) (q7 := 127) (man := 3) (bias := 7) (top := 126) (by decide) (by decide) (by decide) (by decide +kernel) (of_id (by decide) (by decide) (by rfl))
theorem lad6 : Lad 6 123 := lad_mini (q2 := 8) (q6 := 124) (q7 := 126) (man := 2) (bias := 15) (top := 123) (by decide) (by decide) (by decide) (by decide +kernel) (of_id (by decide) (by decide) (by rfl))
theorem lad7 : Lad 7 31 := lad_mini (q2 := 6) (q6 := 0) (q7 := 0) (man := 2) (bias := 3) (top := 31) (by decide) (by decide) (by decide) (by decide +kernel) (of_id (by decide) (by decide) (by rfl))
theorem lad8 : Lad 8 31 := lad_mini (q2 := 6) (q6 := 0) (q7 := 0) (man := 3) (bias := 1) (top := 31) (by decide) (by decide) (by decide) (by decide +kernel) (of_id (by decide) (by decide) (by rfl))
theorem lad9 : Lad 9 7 := lad_mini (q2 := 4) (q6 := 0) (q7 := 0) (man := 1) (bias := 1) (top := 7) (by decide) (by decide) (by decide) (by decide +kernel) (of_id (by decide) (by decide) (by rfl))
theorem lad10 : Lad 10 128 := lad_turned (q2 := 8) (q4 := 0) (q6 := 0) (q7 := 0) (top := 127) (by decide) (of_id (by decide) (by decide) (by rfl))
theorem lad11 : Lad 11 254 := lad_scale (q2 := 8) (q3 := 0) (q6 := 0) (q7 := 255) (top := 254) (by decide) (of_id (by decide) (by decide) (by rfl))
theorem lad12 : Lad 12 31743 := lad_mini (q2 := 16) (q6 := 31744) (q7 := 32256) (man := 10) (bias := 15) (top := 31743) (by decide) (by decide) (by decide) (by decide +kernel) (of_id (by decide) (by decide) (by rfl))
theorem lad13 : Lad 13 2139095039 := lad_mini (q2 := 32) (q6 := 2139095040) (q7 := 2143289344) (man := 23) (bias := 127) (top := 2139095039) (by decide) (by decide) (by decide) (by decide +kernel) (of_id (by decide) (by decide) (by rfl))
theorem lad14 : Lad 14 9218868437227405311 := lad_mini (q2 := 64) (q6 := 9218868437227405312) (q7 := 9221120237041090560) (man := 52) (bias := 1023) (top := 9218868437227405311) (by decide) (by decide) (by decide) (by decide +kernel) (of_id (by decide) (by decide) (by rfl))
theorem lad_all {id : Int} (h1 : 1 ≤ id) (h2 : id ≤ 14) : Lad id (topK id) := by
  obtain rfl | rfl | rfl | rfl | rfl | rfl | rfl | rfl | rfl | rfl | rfl | rfl | rfl | rfl : id = 1 ∨ id = 2 ∨ id = 3 ∨ id = 4 ∨ id = 5 ∨ id = 6 ∨ id = 7 ∨ id = 8 ∨ id = 9 ∨ id = 10 ∨ id = 11 ∨ id = 12 ∨ id = 13 ∨ id = 14 := by omega
  · exact lad1
  · exact lad2
  · exact lad3
  · exact lad4
  · exact lad5
  · exact lad6
  · exact lad7
  · exact lad8
  · exact lad9
  · exact lad10
  · exact lad11
  · exact lad12
  · exact lad13
  · exact lad14

end Go.Proofs.YtmcodbgbjjldnaaDoor.Pr
