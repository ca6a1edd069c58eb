/- A key's own number lies between the boundary before it and the boundary behind it. -/
import Derived.Test.YtmcodbgbjjldnaaDoorPat
set_option linter.unusedVariables false
set_option linter.unusedSimpArgs false
namespace Go.Proofs.YtmcodbgbjjldnaaDoor.Pr
open Go.RowKit Go.Proofs.YtmcodbgbjjldnaaDoorW.PrintWords Go.Proofs.YtmcodbgbjjldnaaDoorW.PrintLast Go.Proofs.YtmcodbgbjjldnaaDoorW.PrintMore

def AtOk (q1 q2 q3 q4 k : Int) (m : Nat) (e : Int) : Prop := numF q1 q2 q3 q4 0 k = some ((m : Int), e) ∧ 0 < m ∧ m < 18446744073709551616 ∧ -5000 ≤ e ∧ e ≤ 5000
def AtQ (id q1 q2 q3 q4 : Int) (T k : Nat) : Prop := ∃ m e, AtOk q1 q2 q3 q4 (k : Int) m e ∧ ∀ (j m' : Nat) (e' : Int), j ≤ T → BetOk id (j : Int) m' e' → (j < k → bval m' e' < bval m e) ∧ (k ≤ j → bval m e < bval m' e')
theorem bval_pow {m : Nat} {e : Int} {v c : Nat} {s : Nat} (hv : m * 2 ^ s = v) (he : (e + 5000).toNat = s + c) : bval m e = v * 2 ^ c := by
  unfold bval
  rw [he, Nat.pow_add, ← Nat.mul_assoc, hv]

theorem bval_pow1 {m : Nat} {e : Int} {v c s : Nat} (d : Nat) (hv : m * 2 ^ s = v) (he : (e + 5000).toNat = s + (d + c)) : bval m e = 2 ^ d * v * 2 ^ c := by
  rw [bval_pow hv he, Nat.pow_add, ← Nat.mul_assoc, Nat.mul_comm v]
theorem at_posit {id : Int} {n : Nat} (top : Nat) {q7 : Int} (n2 : 2 ≤ n) (hn : n ≤ 63) (ht : top + 1 = 2 ^ n) (hof : forms_Of.f id = some (1, (n : Int) + 1, 0, 0, (top : Int), 0, q7, 0)) {k : Nat} (h0 : 0 < k) (hk : k ≤ top) : AtQ id 1 ((n : Int) + 1) 0 0 top k := by
  obtain ⟨r, left, rest, hps⟩ := Cal.PS.exists n k n2 h0 (by omega)
  obtain ⟨s, m, v1, v2, v3, v4, v5⟩ := posit_value_spec (n := n) (by omega) h0 (by omega) hps
  obtain ⟨l', t', hp', hpv⟩ := Cal.pv_twice (by omega) hps
  have hb : bval m ((s : Int) - 4 * (n : Int) - 62) = Cal.pv (r + 1) l' t' * 2 ^ (5000 - 4 * (n + 1) - 62) := by
    rw [bval_pow1 4 v2 (show ((s : Int) - 4 * (n : Int) - 62 + 5000).toNat = s + (4 + (5000 - 4 * (n + 1) - 62)) by omega), hpv]
  refine ⟨m, (s : Int) - 4 * (n : Int) - 62, ⟨?_, v3, v4, by omega, by omega⟩, fun j m' e' hj hbe => ?_⟩
  · have e1 : wrap64 ((n : Int) + 1 + 0) = (n : Int) + 1 := by rw [w64 (by omega) (by omega)]; omega
    unfold numF
    rw [if_pos rfl, e1, v1]
  · obtain ⟨a, b, r2, l2, s2, h3, p3, h4⟩ := posit_between top n2 hn ht hof hj
    obtain ⟨rfl, rfl⟩ := hbe.uniq h3
    rw [h4, hb]
    exact ⟨fun h => Nat.mul_lt_mul_of_pos_right (Cal.pv_mono (by omega) p3 hp' (by omega)) (Nat.two_pow_pos _), fun h => Nat.mul_lt_mul_of_pos_right (Cal.pv_mono (by omega) hp' p3 (by omega)) (Nat.two_pow_pos _)⟩
theorem at_mini {id : Int} {man bias top : Nat} {q2 q6 q7 : Int} (hm : man ≤ 52) (hb : bias ≤ 1023) (ht : top < 9223372036854775808) (hq : (2 * top + 1) / 2 ^ (man + 1) ≤ 4095) (hof : forms_Of.f id = some (2, q2, (man : Int), (bias : Int), (top : Int), q6, q7, 0)) {k : Nat} (h0 : 0 < k) (hk : k ≤ top) : AtQ id 2 q2 (man : Int) (bias : Int) top k := by
  have hq2 : k / 2 ^ man ≤ 4095 := by
    have h1 : k / 2 ^ man = 2 * k / 2 ^ (man + 1) := by rw [Nat.pow_succ, Nat.mul_comm (2 ^ man) 2, Nat.mul_div_mul_left _ _ (by decide)]
    rw [h1]
    exact Nat.le_trans (Nat.div_le_div_right (by omega)) hq
  obtain ⟨s, m, v1, v2, v3, v4, v5⟩ := mini_Value_spec (man := man) (bias := bias) (key := k) (by omega) (by omega) h0 (by omega) hq2
  have hbv : bval m (1 - (bias : Int) - (man : Int) + (s : Int)) = Cal.mv (man + 1) (2 * k) * 2 ^ (5000 - bias - man) := by
    rw [bval_pow1 1 v2 (show (1 - (bias : Int) - (man : Int) + (s : Int) + 5000).toNat = s + (1 + (5000 - bias - man)) by omega), Cal.mv_twice]
  refine ⟨m, 1 - (bias : Int) - (man : Int) + (s : Int), ⟨?_, v3, v4, by omega, by omega⟩, fun j m' e' hj hbe => ?_⟩
  · have e2 : wrap64 ((man : Int) + 0) = (man : Int) := by rw [w64 (by omega) (by omega)]; omega
    unfold numF
    rw [if_neg (by decide), if_pos rfl, e2, v1]
    rfl
  · obtain ⟨a, b, h3, h4⟩ := mini_between hm hb ht hq hof hj
    obtain ⟨rfl, rfl⟩ := hbe.uniq h3
    rw [h4, hbv]
    exact ⟨fun h => Nat.mul_lt_mul_of_pos_right (Cal.mv_mono _ _ _ (by omega)) (Nat.two_pow_pos _), fun h => Nat.mul_lt_mul_of_pos_right (Cal.mv_mono _ _ _ (by omega)) (Nat.two_pow_pos _)⟩
theorem at_scale {id : Int} {top : Nat} {q2 q3 q6 q7 : Int} (ht : top ≤ 254) (hof : forms_Of.f id = some (4, q2, q3, 127, (top : Int), q6, q7, 0)) {k : Nat} (hk : k ≤ top) : AtQ id 4 q2 q3 127 top k := by
  have hbv : bval 1 ((k : Int) - 127) = 2 * 2 ^ (k + 4872) := by
    unfold bval
    rw [show ((k : Int) - 127 + 5000).toNat = (k + 4872) + 1 by omega, Nat.pow_succ]
    omega
  refine ⟨1, (k : Int) - 127, ⟨?_, by decide, by decide, by omega, by omega⟩, fun j m' e' hj hbe => ?_⟩
  · have e2 : wrap64 (wrap64 (wrap64 (k : Int) - 127)) = (k : Int) - 127 := by
      rw [w64 (x := (k : Int)) (by omega) (by omega), w64 (x := (k : Int) - 127) (by omega) (by omega), w64 (by omega) (by omega)]
    unfold numF
    rw [if_neg (by decide), if_neg (by decide), if_neg (by decide), if_pos rfl, if_pos rfl, e2]
    rfl
  · obtain ⟨a, b, h3, h4⟩ := scale_between ht hof hj
    obtain ⟨rfl, rfl⟩ := hbe.uniq h3
    rw [h4, hbv]
    constructor
    · intro h
      obtain ⟨d, rfl⟩ : ∃ d, k = j + 1 + d := ⟨k - (j + 1), by omega⟩
      have e : (2 : Nat) ^ (j + 1 + d + 4872) = 2 ^ (j + 4872) * 2 * 2 ^ d := by rw [← Nat.pow_succ, ← Nat.pow_add]; congr 1; omega
      have hd := Nat.two_pow_pos d
      have hj' := Nat.two_pow_pos (j + 4872)
      rw [e]
      generalize (2 : Nat) ^ (j + 4872) = x at *
      generalize (2 : Nat) ^ d = y at *
      have : x * 2 * 1 ≤ x * 2 * y := Nat.mul_le_mul_left _ hd
      omega
    · intro h
      have := Nat.pow_le_pow_right (n := 2) (by decide) (show k + 4872 ≤ j + 4872 by omega)
      have hj' := Nat.two_pow_pos (j + 4872)
      generalize (2 : Nat) ^ (j + 4872) = x at *
      generalize (2 : Nat) ^ (k + 4872) = y at *
      omega
theorem mul_pow_lt' {a b n : Nat} (h : a < b) : a * 2 ^ n < b * 2 ^ n := Nat.mul_lt_mul_of_pos_right h (Nat.two_pow_pos n)
theorem even_lt {j k : Nat} : (j < k → 2 * j + 1 < 2 * k) ∧ (k ≤ j → 2 * k < 2 * j + 1) := by omega
theorem six_exp (t : Nat) : (-6 + (t : Int) + 5000).toNat = t + (1 + 4993) := by omega
theorem at_turned {id : Int} {top : Nat} {q2 q4 q6 q7 : Int} (ht : top ≤ 1000) (hof : forms_Of.f id = some (3, q2, 6, q4, (top : Int), q6, q7, 0)) {k : Nat} (h0 : 0 < k) (hk : k ≤ top + 1) : AtQ id 3 q2 6 q4 (top + 1) k := by
  obtain ⟨t, m, v1, v2, v3, v4⟩ := value_odd_spec (x := k) (e := -6) h0 (by omega) (by omega)
  have hm : m ≤ k := by
    have := Nat.le_mul_of_pos_right m (Nat.two_pow_pos t)
    omega
  have hbv : bval m (-6 + (t : Int)) = 2 * k * 2 ^ 4993 := by
    exact bval_pow1 (c := 4993) 1 v3.symm (six_exp t)
  refine ⟨m, -6 + (t : Int), ⟨?_, v4, by omega, by omega, by omega⟩, fun j m' e' hj hbe => ?_⟩
  · have e2 : wrap64 (wrap64 (-6) - 0) = -6 := by
      rw [w64 (x := -6) (by decide) (by decide), w64 (by decide) (by decide)]; rfl
    unfold numF
    rw [if_neg (by decide), if_neg (by decide), if_pos rfl, e2, v1]
  · obtain ⟨a, b, h3, h4⟩ := turned_between ht hof hj
    obtain ⟨rfl, rfl⟩ := hbe.uniq h3
    rw [h4, hbv]
    exact ⟨fun h => mul_pow_lt' (n := 4993) (even_lt.1 h), fun h => mul_pow_lt' (n := 4993) (even_lt.2 h)⟩

def At (id : Int) (k : Nat) : Prop := AtQ id (ft id.toNat 0) (ft id.toNat 1) (ft id.toNat 2) (ft id.toNat 3) (topK id) k
theorem at_all {id : Int} (h1 : 1 ≤ id) (h2 : id ≤ 14) {k : Nat} (hk : k ≤ topK id) (h0 : 0 < k ∨ id = 11) : At id k := by
  obtain rfl | rfl | rfl | rfl | rfl | rfl | rfl | rfl | rfl | rfl | rfl | rfl | rfl | rfl : id = 1 ∨ id = 2 ∨ id = 3 ∨ id = 4 ∨ id = 5 ∨ id = 6 ∨ id = 7 ∨ id = 8 ∨ id = 9 ∨ id = 10 ∨ id = 11 ∨ id = 12 ∨ id = 13 ∨ id = 14 := by omega
  · exact at_posit (q7 := 128) (n := 7) 127 (by decide) (by decide) (by decide +kernel) (of_id (by decide) (by decide) (by rfl)) (h0.resolve_right (by decide)) hk
  · exact at_posit (q7 := 32768) (n := 15) 32767 (by decide) (by decide) (by decide +kernel) (of_id (by decide) (by decide) (by rfl)) (h0.resolve_right (by decide)) hk
  · exact at_posit (q7 := 2147483648) (n := 31) 2147483647 (by decide) (by decide) (by decide +kernel) (of_id (by decide) (by decide) (by rfl)) (h0.resolve_right (by decide)) hk
  · exact at_posit (q7 := 9223372036854775808) (n := 63) 9223372036854775807 (by decide) (by decide) (by decide +kernel) (of_id (by decide) (by decide) (by rfl)) (h0.resolve_right (by decide)) hk
  · exact at_mini (q2 := 8) (q6 := 0) (q7 := 127) (man := 3) (bias := 7) (top := 126) (by decide) (by decide) (by decide) (by decide +kernel) (of_id (by decide) (by decide) (by rfl)) (h0.resolve_right (by decide)) hk
  · exact at_mini (q2 := 8) (q6 := 124) (q7 := 126) (man := 2) (bias := 15) (top := 123) (by decide) (by decide) (by decide) (by decide +kernel) (of_id (by decide) (by decide) (by rfl)) (h0.resolve_right (by decide)) hk
  · exact at_mini (q2 := 6) (q6 := 0) (q7 := 0) (man := 2) (bias := 3) (top := 31) (by decide) (by decide) (by decide) (by decide +kernel) (of_id (by decide) (by decide) (by rfl)) (h0.resolve_right (by decide)) hk
  · exact at_mini (q2 := 6) (q6 := 0) (q7 := 0) (man := 3) (bias := 1) (top := 31) (by decide) (by decide) (by decide) (by decide +kernel) (of_id (by decide) (by decide) (by rfl)) (h0.resolve_right (by decide)) hk
  · exact at_mini (q2 := 4) (q6 := 0) (q7 := 0) (man := 1) (bias := 1) (top := 7) (by decide) (by decide) (by decide) (by decide +kernel) (of_id (by decide) (by decide) (by rfl)) (h0.resolve_right (by decide)) hk
  · exact at_turned (q2 := 8) (q4 := 0) (q6 := 0) (q7 := 0) (top := 127) (by decide) (of_id (by decide) (by decide) (by rfl)) (h0.resolve_right (by decide)) hk
  · exact at_scale (q2 := 8) (q3 := 0) (q6 := 0) (q7 := 255) (top := 254) (by decide) (of_id (by decide) (by decide) (by rfl)) hk
  · exact at_mini (q2 := 16) (q6 := 31744) (q7 := 32256) (man := 10) (bias := 15) (top := 31743) (by decide) (by decide) (by decide) (by decide +kernel) (of_id (by decide) (by decide) (by rfl)) (h0.resolve_right (by decide)) hk
  · exact at_mini (q2 := 32) (q6 := 2139095040) (q7 := 2143289344) (man := 23) (bias := 127) (top := 2139095039) (by decide) (by decide) (by decide) (by decide +kernel) (of_id (by decide) (by decide) (by rfl)) (h0.resolve_right (by decide)) hk
  · exact at_mini (q2 := 64) (q6 := 9218868437227405312) (q7 := 9221120237041090560) (man := 52) (bias := 1023) (top := 9218868437227405311) (by decide) (by decide) (by decide) (by decide +kernel) (of_id (by decide) (by decide) (by rfl)) (h0.resolve_right (by decide)) hk

theorem fits_spec {id : Int} (h1 : 1 ≤ id) (h2 : id ≤ 14) {p : Nat} (hp : p < 18446744073709551616) : forms_Fits.f id (p : Int) = some (if p < 2 ^ wid id then 0 else 1) := by
  obtain ⟨w1, w2, w3, w4⟩ := wid_pow h1 h2
  obtain ⟨f1, _⟩ := form_facts h1 h2
  unfold forms_Fits.f
  rw [forms_ok h1 h2, Option.bind_some]
  simp only [if_true, f1, Option.bind_some]
  have e := fits_bits hp w4
  rw [u64_andNot_nat _ _ hp (by omega)]
  by_cases h : p < 2 ^ wid id
  · rw [if_pos h, if_pos (by rw [e.2 h]; rfl)]
  · rw [if_neg h, if_neg (fun hz : ((p &&& (18446744073709551615 - (2 ^ wid id - 1)) : Nat) : Int) = 0 => h (e.1 (Int.natCast_eq_zero.1 hz)))]
/-- What a pattern is, by its parts. -/
def clsN (id : Int) (p : Nat) : Int := classF (ft id.toNat 0) (ft id.toNat 4) (ft id.toNat 5) (ft id.toNat 6) (p : Int) ((partsN id p).2 : Int)
theorem decode_spec {id : Int} (h1 : 1 ≤ id) (h2 : id ≤ 14) {p : Nat} (hp : p < 2 ^ wid id) :
    value_Decode.f id (p : Int) = if clsN id p = 2 then (numF (ft id.toNat 0) (ft id.toNat 1) (ft id.toNat 2) (ft id.toNat 3) 0 ((partsN id p).2 : Int)).bind fun r => some (2, (partsN id p).1, r.1, r.2, 0)
      else if clsN id p = 1 then some (1, (partsN id p).1, 0, 0, 0) else if clsN id p = 3 then some (3, (partsN id p).1, 0, 0, 0) else some (clsN id p, false, 0, 0, 0) := by
  obtain ⟨w1, w2, w3, w4⟩ := wid_pow h1 h2
  obtain ⟨f1, f2, f3, f4, f5, f6, f7, f8, f9, _⟩ := form_facts h1 h2
  unfold value_Decode.f
  rw [fits_spec h1 h2 (by omega), if_pos hp, Option.bind_some, if_pos rfl, forms_ok h1 h2, Option.bind_some, if_pos f9]
  unfold value_Decode.g
  rw [parts_spec h1 h2 hp, Option.bind_some]
  rfl
theorem decode_bad {id : Int} (h : ¬ (1 ≤ id ∧ id ≤ 14)) (p : Int) : value_Decode.f id p = some (0, false, 0, 0, 3) := by
  unfold value_Decode.f forms_Fits.f
  rw [forms_bad h]
  rfl
end Go.Proofs.YtmcodbgbjjldnaaDoor.Pr
