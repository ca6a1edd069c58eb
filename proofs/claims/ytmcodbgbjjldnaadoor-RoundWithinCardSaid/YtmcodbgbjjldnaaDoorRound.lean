/- The plain law of round.Round. -/
import Derived.Test.YtmcodbgbjjldnaaDoorPat
import Derived.Test.YtmcodbgbjjldnaaDoorPrx14
set_option linter.unusedVariables false
set_option linter.unusedSimpArgs false
namespace Go.Proofs.YtmcodbgbjjldnaaDoor.Pr
open Go.RowKit Go.Proofs.YtmcodbgbjjldnaaDoorW.PrintWords Go.Proofs.YtmcodbgbjjldnaaDoorW.PrintLast Go.Proofs.YtmcodbgbjjldnaaDoorW.PrintMore

theorem Ev.mono {α : Type} {F : Nat → Option α} {r : α} (hm : ∀ k, LeO (F k) (F (k + 1))) {k0 : Nat} (h : F k0 = some r) : Ev F r := by
  refine ⟨k0, fun k hk => ?_⟩
  obtain ⟨d, rfl⟩ : ∃ d, k = k0 + d := ⟨k - k0, by omega⟩
  clear hk
  induction d with
  | zero => exact h
  | succ d ih => exact hm (k0 + d) r ih

/-- What becomes of a number that is too large. -/
def largeN (id mode : Int) (neg : Bool) : Int := if mode = 1 ∨ ft id.toNat 0 = 1 ∨ (ft id.toNat 5 = 0 ∧ ft id.toNat 6 = 0) then (patN id neg (mostK id neg) : Int) else if ft id.toNat 5 = 0 then ft id.toNat 6 else if neg = true then ft id.toNat 5 + ((2 ^ (wid id - 1) : Nat) : Int) else ft id.toNat 5
theorem large_spec {id mode : Int} (h1 : 1 ≤ id) (h2 : id ≤ 14) (hm : mode = 1 ∨ mode = 2) {neg : Bool} (hn : ¬ (neg = true ∧ id = 11)) :
    Ev (fun f => round_large.f f (ft id.toNat 0) (ft id.toNat 1) (ft id.toNat 2) (ft id.toNat 3) (ft id.toNat 4) (ft id.toNat 5) (ft id.toNat 6) id mode neg) (largeN id mode neg) := by
  refine Ev.mono (k0 := 1) (fun k => round_large.mono _ _ _ _ _ _ _ _ _ _ k) ?_
  obtain rfl | rfl | rfl | rfl | rfl | rfl | rfl | rfl | rfl | rfl | rfl | rfl | rfl | rfl : id = 1 ∨ id = 2 ∨ id = 3 ∨ id = 4 ∨ id = 5 ∨ id = 6 ∨ id = 7 ∨ id = 8 ∨ id = 9 ∨ id = 10 ∨ id = 11 ∨ id = 12 ∨ id = 13 ∨ id = 14 := by omega
  all_goals rcases hm with rfl | rfl
  all_goals cases neg
  all_goals first
    | exact absurd ⟨rfl, rfl⟩ hn
    | decide +kernel

theorem told_le {id : Int} (h1 : 1 ≤ id) (h2 : id ≤ 14) {neg : Bool} {kd : Int} {l : List Int} {a : Nat} (h : a ≤ mostK id neg) : told kd l a ≤ mostK id neg := by
  have := (form_facts h1 h2).2.2.2.2.2.2.2.2.2.2.1
  unfold told
  split
  · cases neg <;> omega
  · exact h

/-- What Round tells. -/
def RoundTo (id mode : Int) (n : Bool) (l : List Int) (X q : Int) : Prop :=
  (id = 11 ∧ (n = true ∨ l = []) ∧ q = 255) ∨
  (¬ (id = 11 ∧ (n = true ∨ l = [])) ∧ ((wt id X (mostK id n) = false ∧ q = largeN id mode n) ∨ ∃ a, Least id X (mostK id n) a ∧ q = (patN id n (told (ft id.toNat 0) l a) : Int)))
theorem round_Round_spec {id mode : Int} (h1 : 1 ≤ id) (h2 : id ≤ 14) (hm : mode = 1 ∨ mode = 2) (n : Bool) {l : List Int} {two five : Int} (hx : Rt l two five) :
    ∃ q, Ev (fun f => round_Round.f f id mode n l two five) (q, 0) ∧ RoundTo id mode n l (mag l two five) q := by
  obtain ⟨_, _, _, _, _, f6, f7, _⟩ := form_facts h1 h2
  have hr := exact_Right_spec (n := n) hx
  have e0 : ∀ f, round_Round.f f id mode n l two five = round_Round.j0 f id mode false n l two five (ft id.toNat 0) (ft id.toNat 1) (ft id.toNat 2) (ft id.toNat 3) (ft id.toNat 4) (ft id.toNat 5) (ft id.toNat 6) := fun f => by
    unfold round_Round.f
    rw [forms_ok h1 h2, Option.bind_some]
    simp only [if_true, hr, Option.bind_some]
    rcases hm with rfl | rfl
    · rfl
    · rfl
  have e1 : ∀ f, ¬ (id = 11 ∧ (n = true ∨ l = [])) → round_Round.j0 (f + 1) id mode false n l two five (ft id.toNat 0) (ft id.toNat 1) (ft id.toNat 2) (ft id.toNat 3) (ft id.toNat 4) (ft id.toNat 5) (ft id.toNat 6) = round_Round.j1 f id mode n l two five (ft id.toNat 0) (ft id.toNat 1) (ft id.toNat 2) (ft id.toNat 3) (ft id.toNat 4) (ft id.toNat 5) (ft id.toNat 6) := fun f hn => by
    simp only [round_Round.j0, round_zero_spec, Option.bind_some]
    rw [if_neg (by decide)]
    by_cases k4 : ft id.toNat 0 = 4
    · have hid := (f6 k4).2.2.2.1
      have c1 : ¬ n = true := fun h => hn ⟨hid, .inl h⟩
      have c2 : ¬ l = [] := fun h => hn ⟨hid, .inr h⟩
      rw [if_pos k4, if_neg c1, decide_eq_false c2, if_neg (by decide)]
    · rw [if_neg k4]
  by_cases hs : id = 11 ∧ (n = true ∨ l = [])
  · refine ⟨255, ?_, .inl ⟨hs.1, hs.2, rfl⟩⟩
    have k4 := f7 hs.1
    have h6 := (f6 k4).2.1
    refine Ev.congr (Ev.succ (Ev.of fun f => ?_)) e0
    simp only [round_Round.j0, round_zero_spec, Option.bind_some]
    rw [if_neg (by decide), if_pos k4, h6]
    by_cases c1 : n = true
    · rw [if_pos c1]
    · rw [if_neg c1, decide_eq_true (hs.2.resolve_left c1), if_pos rfl]
  · have hn : ¬ (n = true ∧ id = 11) := fun h => hs ⟨h.2, .inl h.1⟩
    obtain ⟨n1, n2⟩ := round_Nearest_spec h1 h2 (n := n) hn hx
    cases hw : wt id (mag l two five) (mostK id n) with
    | false =>
      refine ⟨largeN id mode n, ?_, .inr ⟨hs, .inl ⟨hw, rfl⟩⟩⟩
      obtain ⟨K, hK⟩ := n1 hw
      obtain ⟨K', hK'⟩ := large_spec h1 h2 hm hn
      refine ⟨max K K' + 2, fun k hk => ?_⟩
      obtain ⟨j, rfl⟩ : ∃ j, k = j + 1 + 1 := ⟨k - 2, by omega⟩
      have a1 := hK j (by omega)
      have a2 := hK' j (by omega)
      simp only at a1 a2
      show round_Round.f (j + 1 + 1) id mode n l two five = _
      rw [e0, e1 _ hs]
      simp only [round_Round.j1, a1, a2, Option.bind_some, if_true]
    | true =>
      obtain ⟨a, ha⟩ := least_ex _ hw
      refine ⟨(patN id n (told (ft id.toNat 0) l a) : Int), ?_, .inr ⟨hs, .inr ⟨a, ha, rfl⟩⟩⟩
      obtain ⟨K, hK⟩ := n2 a ha
      have hp := pat_spec h1 h2 (told_le h1 h2 (kd := ft id.toNat 0) (l := l) ha.le) hn
      refine ⟨K + 2, fun k hk => ?_⟩
      obtain ⟨j, rfl⟩ : ∃ j, k = j + 1 + 1 := ⟨k - 2, by omega⟩
      have a1 := hK j (by omega)
      simp only at a1
      show round_Round.f (j + 1 + 1) id mode n l two five = _
      rw [e0, e1 _ hs]
      simp only [round_Round.j1, a1, hp, Option.bind_some, if_true]
      rfl
theorem round_Round_bad {id : Int} (h : ¬ (1 ≤ id ∧ id ≤ 14)) (mode : Int) (n : Bool) (l : List Int) (two five : Int) (f : Nat) : round_Round.f f id mode n l two five = some (0, 3) := by
  unfold round_Round.f
  rw [forms_bad h, Option.bind_some]
  rfl
theorem Least.uniq {id X : Int} {M a b : Nat} (ha : Least id X M a) (hb : Least id X M b) : a = b := by
  rcases Nat.lt_trichotomy a b with h | h | h
  · have := hb.no a h; rw [ha.yes] at this; cases this
  · exact h
  · have := ha.no b h; rw [hb.yes] at this; cases this

end Go.Proofs.YtmcodbgbjjldnaaDoor.Pr
