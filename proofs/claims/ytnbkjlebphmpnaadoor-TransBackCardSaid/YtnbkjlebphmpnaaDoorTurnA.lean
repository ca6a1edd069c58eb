/- What becomes of a value in a form: the plain part of layer 14. -/
import Derived.Test.YtnbkjlebphmpnaaDoorVal
set_option linter.unusedVariables false
set_option linter.unusedSimpArgs false
namespace Go.Proofs.YtnbkjlebphmpnaaDoor.Pr
open Go.RowKit Go.Proofs.YtnbkjlebphmpnaaDoorW.PrintWords Go.Proofs.YtnbkjlebphmpnaaDoorW.PrintLast Go.Proofs.YtnbkjlebphmpnaaDoorW.PrintMore

theorem rt_huge : Rt [1] 4000 0 := ⟨Ws.mk_cons (by decide) (by decide) Ws.nil, fun x h => by simp at h; omega, by decide, by decide, by decide⟩
theorem huge_within {id : Int} (h1 : 1 ≤ id) (h2 : id ≤ 14) {neg : Bool} (hn : ¬ (neg = true ∧ id = 11)) : round_within.f 200 id false [1] 4000 0 (mostK id neg : Int) = some false := by
  obtain rfl | rfl | rfl | rfl | rfl | rfl | rfl | rfl | rfl | rfl | rfl | rfl | rfl | rfl : id = 1 ∨ id = 2 ∨ id = 3 ∨ id = 4 ∨ id = 5 ∨ id = 6 ∨ id = 7 ∨ id = 8 ∨ id = 9 ∨ id = 10 ∨ id = 11 ∨ id = 12 ∨ id = 13 ∨ id = 14 := by omega
  all_goals cases neg
  all_goals first
    | exact absurd ⟨rfl, rfl⟩ hn
    | decide +kernel
theorem huge_wt {id : Int} (h1 : 1 ≤ id) (h2 : id ≤ 14) {neg : Bool} (hn : ¬ (neg = true ∧ id = 11)) : wt id (mag [1] 4000 0) (mostK id neg) = false := by
  obtain ⟨_, m2, _⟩ := most_spec h1 h2 neg hn
  obtain ⟨K, hK⟩ := wt_spec h1 h2 m2 (n := false) rt_huge
  obtain ⟨K', hK'⟩ := Ev.mono (fun k => round_within.mono _ _ _ _ _ _ k) (huge_within h1 h2 hn)
  have a := hK (max K K') (by omega)
  have b := hK' (max K K') (by omega)
  simp only at a b
  rw [a] at b
  exact Option.some.inj b

def okLarge (id mode : Int) (neg : Bool) : Bool := match value_Decode.f id (largeN id mode neg) with
  | some (c, b, _, _, e) => e == 0 && ((c == 4 && b == false) || ((c == 2 || c == 3) && b == neg))
  | none => false
theorem large_decode {id mode : Int} (h1 : 1 ≤ id) (h2 : id ≤ 14) (hm : mode = 1 ∨ mode = 2) {neg : Bool} (hn : ¬ (neg = true ∧ id = 11)) :
    ∃ c b m e, value_Decode.f id (largeN id mode neg) = some (c, b, m, e, 0) ∧ ((c = 4 ∧ b = false) ∨ ((c = 2 ∨ c = 3) ∧ b = neg)) := by
  have h : okLarge id mode neg = true := by
    obtain rfl | rfl | rfl | rfl | rfl | rfl | rfl | rfl | rfl | rfl | rfl | rfl | rfl | rfl : id = 1 ∨ id = 2 ∨ id = 3 ∨ id = 4 ∨ id = 5 ∨ id = 6 ∨ id = 7 ∨ id = 8 ∨ id = 9 ∨ id = 10 ∨ id = 11 ∨ id = 12 ∨ id = 13 ∨ id = 14 := by omega
    all_goals rcases hm with rfl | rfl
    all_goals cases neg
    all_goals first
      | exact absurd ⟨rfl, rfl⟩ hn
      | decide +kernel
  unfold okLarge at h
  split at h
  · rename_i c b m e er heq
    simp only [Bool.and_eq_true, Bool.or_eq_true, beq_iff_eq] at h
    rw [h.1] at heq
    exact ⟨c, b, m, e, heq, h.2⟩
  · cases h
def okNan (id : Int) : Bool := match value_Decode.f id (ft id.toNat 6) with
  | some (c, b, _, _, e) => e == 0 && b == false && (c == 4 || c == 1)
  | none => false
theorem nan_decode {id : Int} (h1 : 1 ≤ id) (h2 : id ≤ 14) : ∃ c m e, value_Decode.f id (ft id.toNat 6) = some (c, false, m, e, 0) ∧ (c = 4 ∨ c = 1) := by
  have h : okNan id = true := by
    obtain rfl | rfl | rfl | rfl | rfl | rfl | rfl | rfl | rfl | rfl | rfl | rfl | rfl | rfl : id = 1 ∨ id = 2 ∨ id = 3 ∨ id = 4 ∨ id = 5 ∨ id = 6 ∨ id = 7 ∨ id = 8 ∨ id = 9 ∨ id = 10 ∨ id = 11 ∨ id = 12 ∨ id = 13 ∨ id = 14 := by omega
    all_goals decide +kernel
  unfold okNan at h
  split at h
  · rename_i c b m e er heq
    simp only [Bool.and_eq_true, Bool.or_eq_true, beq_iff_eq] at h
    rw [h.1.1, h.1.2] at heq
    exact ⟨c, m, e, heq, h.2⟩
  · cases h

/-- What a value becomes in a form. -/
def VTo (to_ mode c : Int) (b : Bool) (m e q : Int) : Prop :=
  (c = 4 ∧ q = ft to_.toNat 6) ∨ (c = 3 ∧ (((ft to_.toNat 0 = 1 ∨ (ft to_.toNat 0 = 4 ∧ b = true)) ∧ q = ft to_.toNat 6) ∨ (¬ (ft to_.toNat 0 = 1 ∨ (ft to_.toNat 0 = 4 ∧ b = true)) ∧ q = largeN to_ mode b))) ∨
  ((c = 1 ∨ c = 2) ∧ ∃ l t, exact_Of.f c b m e = some (b, l, t, 0, true) ∧ Rt l t 0 ∧ RoundTo to_ mode b l (mag l t 0) q)
/-- The sign of what a value becomes. -/
theorem vto_sign {to_ mode c : Int} {b : Bool} {m e q : Int} (h1 : 1 ≤ to_) (h2 : to_ ≤ 14) (hm : mode = 1 ∨ mode = 2) (h : VTo to_ mode c b m e q) :
    ∃ c' b' m' e', value_Decode.f to_ q = some (c', b', m', e', 0) ∧ (c' = 4 → b' = false) ∧ (c = 4 → b' = false) ∧ (c' = 1 → ¬ ft to_.toNat 0 = 2 → b' = false) ∧ (c' ≠ 4 → c ≠ 4 → ¬ (c' = 1 ∧ ¬ ft to_.toNat 0 = 2) → b' = b) := by
  obtain ⟨f1, f2, f3, f4, f5, f6, f7, f8, f9, f10, f11, f12⟩ := form_facts h1 h2
  have nan : (c = 4 ∨ (c = 3 ∧ (ft to_.toNat 0 = 1 ∨ (ft to_.toNat 0 = 4 ∧ b = true)))) → q = ft to_.toNat 6 → ∃ c' b' m' e', value_Decode.f to_ q = some (c', b', m', e', 0) ∧ (c' = 4 → b' = false) ∧ (c = 4 → b' = false) ∧ (c' = 1 → ¬ ft to_.toNat 0 = 2 → b' = false) ∧ (c' ≠ 4 → c ≠ 4 → ¬ (c' = 1 ∧ ¬ ft to_.toNat 0 = 2) → b' = b) := by
    rintro hc rfl
    obtain ⟨c', m', e', hd, hc'⟩ := nan_decode h1 h2
    refine ⟨c', false, m', e', hd, fun _ => rfl, fun _ => rfl, fun _ _ => rfl, fun a1 a2 a3 => ?_⟩
    exfalso
    have := hc'.resolve_left a1
    exact a3 ⟨this, by rcases hc with h | h <;> omega⟩
  rcases h with ⟨rfl, hq⟩ | ⟨rfl, ⟨hk, hq⟩ | ⟨hk, rfl⟩⟩ | ⟨hc, l, t, hx, hr, hq⟩
  · exact nan (.inl rfl) hq
  · exact nan (.inr ⟨rfl, hk⟩) hq
  · have hn : ¬ (b = true ∧ to_ = 11) := fun h => hk (.inr ⟨f7 h.2, h.1⟩)
    obtain ⟨c', b', m', e', hd, hc'⟩ := large_decode h1 h2 hm hn
    refine ⟨c', b', m', e', hd, fun h => ?_, fun h => absurd h (by decide), fun h _ => ?_, fun a _ _ => ?_⟩
    · rcases hc' with h' | h'
      · exact h'.2
      · omega
    · rcases hc' with h' | h' <;> omega
    · rcases hc' with h' | h'
      · omega
      · exact h'.2
  · rcases hq with ⟨rfl, hz, rfl⟩ | ⟨hs, ⟨hw, rfl⟩ | ⟨a, hL, rfl⟩⟩
    · exact ⟨4, false, 0, 0, by decide +kernel, fun _ => rfl, fun _ => rfl, fun _ _ => rfl, fun h => absurd rfl h⟩
    · have hn : ¬ (b = true ∧ to_ = 11) := fun h => hs ⟨h.2, .inl h.1⟩
      obtain ⟨c', b', m', e', hd, hc'⟩ := large_decode h1 h2 hm hn
      have c4 : ¬ c = 4 := by rcases hc with rfl | rfl <;> decide
      refine ⟨c', b', m', e', hd, fun h => ?_, fun h => absurd h c4, fun h _ => ?_, fun a _ _ => ?_⟩
      · rcases hc' with h' | h'
        · exact h'.2
        · omega
      · rcases hc' with h' | h' <;> omega
      · rcases hc' with h' | h'
        · omega
        · exact h'.2
    · have hn : ¬ (b = true ∧ to_ = 11) := fun h => hs ⟨h.2, .inl h.1⟩
      have hle := told_le h1 h2 (kd := ft to_.toNat 0) (l := l) hL.le
      generalize told (ft to_.toNat 0) l a = key at *
      obtain ⟨b', m', e', hd, hb⟩ := decode_pat h1 h2 hle hn
      have c4 : ¬ c = 4 := by rcases hc with rfl | rfl <;> decide
      refine ⟨_, b', m', e', hd, fun h => ?_, fun h => absurd h c4, fun h hk => ?_, fun _ _ h => ?_⟩
      · split at h <;> omega
      · have h0 : key = 0 := by
          split at h
          · rename_i h'; exact h'.1
          · omega
        rw [hb]
        by_cases hbt : b = true
        · rw [if_pos ⟨hbt, hk, h0⟩]
        · rw [if_neg (fun h => hbt h.1)]
          simpa using hbt
      · rw [hb]
        by_cases hz : b = true ∧ ¬ ft to_.toNat 0 = 2 ∧ key = 0
        · exfalso
          refine h ⟨?_, hz.2.1⟩
          rw [if_pos ⟨hz.2.2, fun h11 => hn ⟨hz.1, h11⟩⟩]
        · rw [if_neg hz]

theorem large_nat {id mode : Int} (h1 : 1 ≤ id) (h2 : id ≤ 14) (hm : mode = 1 ∨ mode = 2) (neg : Bool) : 0 ≤ largeN id mode neg ∧ largeN id mode neg < 18446744073709551616 := by
  obtain rfl | rfl | rfl | rfl | rfl | rfl | rfl | rfl | rfl | rfl | rfl | rfl | rfl | rfl : id = 1 ∨ id = 2 ∨ id = 3 ∨ id = 4 ∨ id = 5 ∨ id = 6 ∨ id = 7 ∨ id = 8 ∨ id = 9 ∨ id = 10 ∨ id = 11 ∨ id = 12 ∨ id = 13 ∨ id = 14 := by omega
  all_goals rcases hm with rfl | rfl
  all_goals cases neg
  all_goals decide +kernel
theorem nan_nat {id : Int} (h1 : 1 ≤ id) (h2 : id ≤ 14) : 0 ≤ ft id.toNat 6 ∧ ft id.toNat 6 < 18446744073709551616 := by
  obtain rfl | rfl | rfl | rfl | rfl | rfl | rfl | rfl | rfl | rfl | rfl | rfl | rfl | rfl : id = 1 ∨ id = 2 ∨ id = 3 ∨ id = 4 ∨ id = 5 ∨ id = 6 ∨ id = 7 ∨ id = 8 ∨ id = 9 ∨ id = 10 ∨ id = 11 ∨ id = 12 ∨ id = 13 ∨ id = 14 := by omega
  all_goals decide +kernel
/-- What a value becomes is a word. -/
theorem vto_nat {to_ mode c : Int} {b : Bool} {m e q : Int} (h1 : 1 ≤ to_) (h2 : to_ ≤ 14) (hm : mode = 1 ∨ mode = 2) (h : VTo to_ mode c b m e q) : ∃ qn : Nat, q = (qn : Int) ∧ qn < 18446744073709551616 := by
  have fin : 0 ≤ q ∧ q < 18446744073709551616 → ∃ qn : Nat, q = (qn : Int) ∧ qn < 18446744073709551616 := fun h => ⟨q.toNat, by omega, by omega⟩
  rcases h with ⟨_, rfl⟩ | ⟨_, ⟨_, rfl⟩ | ⟨_, rfl⟩⟩ | ⟨_, l, t, _, _, hq⟩
  · exact fin (nan_nat h1 h2)
  · exact fin (nan_nat h1 h2)
  · exact fin (large_nat h1 h2 hm b)
  · rcases hq with ⟨_, _, rfl⟩ | ⟨hs, ⟨_, rfl⟩ | ⟨a, hL, rfl⟩⟩
    · exact ⟨255, rfl, by decide⟩
    · exact fin (large_nat h1 h2 hm b)
    · have hn : ¬ (b = true ∧ to_ = 11) := fun h => hs ⟨h.2, .inl h.1⟩
      have := patN_lt h1 h2 (told_le h1 h2 (kd := ft to_.toNat 0) (l := l) hL.le) hn
      have := wid_pow h1 h2
      exact ⟨_, rfl, by omega⟩

end Go.Proofs.YtnbkjlebphmpnaaDoor.Pr
