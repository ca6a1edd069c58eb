/- What the pattern of a key means, and that a key's own number is told that key. -/
import Derived.Test.YtmcodbgbjjldnaaDoorAt
import Derived.Test.YtmcodbgbjjldnaaDoorRound
set_option linter.unusedVariables false
set_option linter.unusedSimpArgs false
namespace Go.Proofs.YtmcodbgbjjldnaaDoor.Pr
open Go.RowKit Go.Proofs.YtmcodbgbjjldnaaDoorW.PrintWords Go.Proofs.YtmcodbgbjjldnaaDoorW.PrintLast Go.Proofs.YtmcodbgbjjldnaaDoorW.PrintMore

theorem at_bnd {id : Int} (h1 : 1 ≤ id) (h2 : id ≤ 14) {k : Nat} (hk : k ≤ topK id) (h0 : 0 < k ∨ id = 11) :
    ∃ m e, AtOk (ft id.toNat 0) (ft id.toNat 1) (ft id.toNat 2) (ft id.toNat 3) (k : Int) m e ∧ ∀ M, k ≤ M → M ≤ topK id → Least id (bmag m e) M k := by
  obtain ⟨m, e, a1, a2⟩ := at_all h1 h2 hk h0
  refine ⟨m, e, a1, fun M hM hT => ⟨hM, ?_, fun j hj => ?_⟩⟩
  · obtain ⟨m', e', hb⟩ := (lad_all h1 h2).1 k hk
    rw [wt_true, bnd_of hb]
    left
    unfold bmag
    exact Int.mul_lt_mul_of_pos_right (Int.ofNat_lt.2 ((a2 k m' e' hk hb).2 (Nat.le_refl _))) five_pos
  · obtain ⟨m', e', hb⟩ := (lad_all h1 h2).1 j (by omega)
    have h3 : bmag m' e' < bmag m e := by
      unfold bmag
      exact Int.mul_lt_mul_of_pos_right (Int.ofNat_lt.2 ((a2 j m' e' (by omega) hb).1 hj)) five_pos
    rw [wt_false, bnd_of hb]
    omega
theorem zero_least {id : Int} (h1 : 1 ≤ id) (h2 : id ≤ 14) (M : Nat) : Least id 0 M 0 :=
  ⟨Nat.zero_le _, by rw [wt_true]; exact .inl (bnd_pos h1 h2 (Nat.zero_le _)), fun j hj => absurd hj (Nat.not_lt_zero j)⟩
theorem mag_nil (t f : Int) : mag [] t f = 0 := by unfold mag; simp [val]

/-- The class of a key's pattern. -/
theorem cls_pat {id : Int} (h1 : 1 ≤ id) (h2 : id ≤ 14) {neg : Bool} {key : Nat} (hk : key ≤ mostK id neg) (hn : ¬ (neg = true ∧ id = 11)) :
    clsN id (patN id neg key) = (if key = 0 ∧ ¬ id = 11 then 1 else 2) ∧ (partsN id (patN id neg key)).2 = key := by
  obtain ⟨w1, w2, w3, w4⟩ := wid_pow h1 h2
  obtain ⟨f1, f2, f3, f4, f5, f6, f7, f8, f9, f10, f11, f12⟩ := form_facts h1 h2
  have hkey : (partsN id (patN id neg key)).2 = key := by
    rw [parts_pat h1 h2 hk hn]
    split
    · omega
    · rfl
  refine ⟨?_, hkey⟩
  have h11 : id = 11 ↔ ft id.toNat 0 = 4 := ⟨f7, fun h => (f6 h).2.2.2.1⟩
  unfold clsN
  rw [hkey]
  unfold classF
  have hz : ((key : Int) = 0) ↔ key = 0 := by omega
  rcases (show ft id.toNat 0 = 1 ∨ ft id.toNat 0 = 2 ∨ ft id.toNat 0 = 3 ∨ ft id.toNat 0 = 4 by omega) with k | k | k | k
  · obtain ⟨g1, g2, g3, g4⟩ := f4 k
    have n6 : ¬ ft id.toNat 6 = 0 := by omega
    have hne : ¬ (patN id neg key : Int) = ft id.toNat 6 := by
      have n2 : ¬ ft id.toNat 0 = 2 := by omega
      unfold patN
      rw [if_neg n2, g3]
      cases neg with
      | false => simp only [Bool.false_eq_true, if_false]; omega
      | true =>
        rw [if_pos rfl]
        by_cases h0 : key = 0
        · subst h0; rw [Nat.sub_zero, Nat.mod_self]; omega
        · rw [Nat.mod_eq_of_lt (by omega)]; omega
    rw [if_neg (by omega), if_neg n6, if_neg hne]
    have n4 : ¬ ft id.toNat 0 = 4 := by omega
    simp only [n4, h11, hz, not_false_eq_true, and_true, if_false]
  · obtain ⟨g1, g2, g3, g4, g5, g6⟩ := f12 k
    have hle : key ≤ mostK id false := by cases neg <;> omega
    have n4 : ¬ (2 : Int) = 4 := by decide
    have e3 : ¬ ((key : Int) > ft id.toNat 4) := by omega
    rw [if_pos k]
    simp only [k, n4, h11, hz, e3, not_false_eq_true, and_true, if_false]
    by_cases e1 : (key : Int) = ft id.toNat 5
    · rw [if_pos e1, if_pos (by omega)]
    · rw [if_neg e1]
  · obtain ⟨g1, g2, g3, g4, g5⟩ := f5 k
    have n4 : ¬ ft id.toNat 0 = 4 := by omega
    rw [if_neg (by omega), if_pos g3]
    simp only [n4, h11, hz, not_false_eq_true, and_true, if_false]
  · obtain ⟨g1, g2, g3, g4, g5⟩ := f6 k
    have n6 : ¬ ft id.toNat 6 = 0 := by omega
    have hneg : neg = false := by
      cases neg with
      | false => rfl
      | true => exact absurd ⟨rfl, g4⟩ hn
    subst hneg
    have hne : ¬ (patN id false key : Int) = ft id.toNat 6 := by
      unfold patN
      simp only [Bool.false_eq_true, if_false]
      omega
    rw [if_neg (by omega), if_neg n6, if_neg hne]
    simp only [k, h11, if_true, ite_self, not_true_eq_false, and_false, if_false]
/-- What the pattern of a key means. -/
theorem decode_pat {id : Int} (h1 : 1 ≤ id) (h2 : id ≤ 14) {neg : Bool} {key : Nat} (hk : key ≤ mostK id neg) (hn : ¬ (neg = true ∧ id = 11)) :
    ∃ b m e, value_Decode.f id (patN id neg key : Int) = some (if key = 0 ∧ ¬ id = 11 then 1 else 2, b, m, e, 0) ∧ (b = if neg = true ∧ ¬ ft id.toNat 0 = 2 ∧ key = 0 then false else neg) := by
  have hlt := patN_lt h1 h2 hk hn
  obtain ⟨c1, c2⟩ := cls_pat h1 h2 hk hn
  obtain ⟨_, m2, _⟩ := most_spec h1 h2 neg hn
  have hp := parts_pat h1 h2 hk hn
  rw [decode_spec h1 h2 hlt, c1, c2]
  refine ⟨(partsN id (patN id neg key)).1, ?_⟩
  have hb : (partsN id (patN id neg key)).1 = if neg = true ∧ ¬ ft id.toNat 0 = 2 ∧ key = 0 then false else neg := by
    rw [hp]
    split <;> rfl
  by_cases hz : key = 0 ∧ ¬ id = 11
  · rw [if_pos hz, if_neg (by decide), if_pos rfl]
    exact ⟨0, 0, rfl, hb⟩
  · rw [if_neg hz, if_pos rfl]
    obtain ⟨m, e, a1, _⟩ := at_bnd h1 h2 (k := key) (by omega) (by omega)
    rw [a1.1]
    exact ⟨m, e, rfl, hb⟩
end Go.Proofs.YtmcodbgbjjldnaaDoor.Pr
