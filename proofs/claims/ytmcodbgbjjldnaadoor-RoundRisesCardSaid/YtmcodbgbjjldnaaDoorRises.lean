/- The plain law of RoundRises: a greater number has no lesser pattern. -/
import Derived.Test.YtmcodbgbjjldnaaDoorRound
import Derived.Test.YtmcodbgbjjldnaaDoorSmall
import Derived.Test.YtmcodbgbjjldnaaDoorPrxR
set_option linter.unusedVariables false
set_option linter.unusedSimpArgs false
namespace Go.Proofs.YtmcodbgbjjldnaaDoor.Pr
open Go.RowKit Go.Proofs.YtmcodbgbjjldnaaDoorW.PrintWords Go.Proofs.YtmcodbgbjjldnaaDoorW.PrintLast Go.Proofs.YtmcodbgbjjldnaaDoorW.PrintMore

def NearOut (id : Int) (neg : Bool) (l : List Int) (X : Int) (key : Nat) (over : Bool) : Prop :=
  (over = true ∧ key = mostK id neg ∧ wt id X (mostK id neg) = false) ∨ (over = false ∧ ∃ a, Least id X (mostK id neg) a ∧ key = told (ft id.toNat 0) l a)
theorem near_ex {id : Int} (h1 : 1 ≤ id) (h2 : id ≤ 14) {neg : Bool} (n : Bool) (hn : ¬ (neg = true ∧ id = 11)) {l : List Int} {two five : Int} (hx : Rt l two five) :
    ∃ (key : Nat) (over : Bool), Ev (fun f => round_Nearest.f f id neg n l two five) ((key : Int), over, 0) ∧ NearOut id neg l (mag l two five) key over := by
  obtain ⟨n1, n2⟩ := round_Nearest_spec h1 h2 (n := n) hn hx
  cases hw : wt id (mag l two five) (mostK id neg) with
  | false => exact ⟨_, _, n1 hw, .inl ⟨rfl, rfl, hw⟩⟩
  | true =>
    obtain ⟨a, ha⟩ := least_ex _ hw
    exact ⟨_, _, n2 a ha, .inr ⟨rfl, a, ha, rfl⟩⟩
theorem most_err {id : Int} {neg : Bool} (h : ¬ (1 ≤ id ∧ id ≤ 14) ∨ (neg = true ∧ id = 11)) : ∃ e, e ≠ 0 ∧ value_Most.f id neg = some (0, e) := by
  rcases h with h | ⟨rfl, rfl⟩
  · refine ⟨3, by decide, ?_⟩
    unfold value_Most.f
    rw [forms_bad h]
    rfl
  · exact ⟨5, by decide, by decide +kernel⟩
theorem near_err {id : Int} {neg : Bool} (h : ¬ (1 ≤ id ∧ id ≤ 14) ∨ (neg = true ∧ id = 11)) : ∃ e, e ≠ 0 ∧ ∀ (n : Bool) {l : List Int} {two five : Int} (f : Nat), Rt l two five → round_Nearest.f f id neg n l two five = some (0, false, e) := by
  obtain ⟨e, he, hm⟩ := most_err h
  refine ⟨e, he, fun n l two five f hx => ?_⟩
  unfold round_Nearest.f
  rw [hm, Option.bind_some, exact_Right_spec hx, Option.bind_some, if_pos rfl, if_neg he]
theorem wt_less {id X Y : Int} {k : Nat} (h : X ≤ Y) (hw : wt id Y k = true) : wt id X k = true := by
  rw [wt_true] at *
  omega
theorem mag_pos_of {l : List Int} {two five : Int} (hx : Rt l two five) (h : l ≠ []) : 0 < mag l two five := mag_pos (hx.2.1.pos hx.1 h) two five
theorem near_mono {id : Int} (h1 : 1 ≤ id) (h2 : id ≤ 14) {neg : Bool} (hn : ¬ (neg = true ∧ id = 11)) {l l' : List Int} {t f t' f' : Int} (hx : Rt l t f) (hy : Rt l' t' f') {k k' : Nat} {o o' : Bool}
    (hX : NearOut id neg l (mag l t f) k o) (hY : NearOut id neg l' (mag l' t' f') k' o') (h : mag l t f ≤ mag l' t' f') : k ≤ k' ∧ (o = true → o' = true) := by
  obtain ⟨_, m2, _⟩ := most_spec h1 h2 neg hn
  rcases hX with ⟨rfl, rfl, hX⟩ | ⟨rfl, a, hX, rfl⟩ <;> rcases hY with ⟨rfl, rfl, hY⟩ | ⟨rfl, b, hY, rfl⟩
  · exact ⟨Nat.le_refl _, fun h => h⟩
  · rw [wt_less h (wt_mono h1 h2 hY.le m2 hY.yes)] at hX
    cases hX
  · exact ⟨told_le h1 h2 hX.le, fun h => by cases h⟩
  · have hab : a ≤ b := by
      rcases Nat.lt_or_ge b a with hlt | hge
      · have := hX.no b hlt
        rw [wt_less h hY.yes] at this
        cases this
      · exact hge
    refine ⟨?_, fun h => by cases h⟩
    unfold told
    by_cases c1 : ft id.toNat 0 = 1 ∧ a = 0 ∧ l ≠ []
    · rw [if_pos c1]
      have hp := mag_pos_of hx c1.2.2
      have hl' : l' ≠ [] := by
        rintro rfl
        have : mag [] t' f' = 0 := by unfold mag; simp [val]
        omega
      by_cases c2 : b = 0
      · rw [if_pos ⟨c1.1, c2, hl'⟩]
        exact Nat.le_refl _
      · rw [if_neg (fun h => c2 h.2.1)]
        omega
    · rw [if_neg c1]
      split
      · rename_i c2
        omega
      · exact hab

theorem Rises_pure (a0 : Int) (a1 n : Bool) (l : List Int) (t v : Int) (n' : Bool) (l' : List Int) (t' v' : Int) (b00 : -9223372036854775808 ≤ a0) (b01 : a0 ≤ 9223372036854775807)
    (hm : l.length ≤ maxLen) (hw : ∀ x ∈ l, (Lit.int .u64 x).wf = true) (bt0 : -9223372036854775808 ≤ t) (bt1 : t ≤ 9223372036854775807) (bv0 : -9223372036854775808 ≤ v) (bv1 : v ≤ 9223372036854775807)
    (hm' : l'.length ≤ maxLen) (hw' : ∀ x ∈ l', (Lit.int .u64 x).wf = true) (ct0 : -9223372036854775808 ≤ t') (ct1 : t' ≤ 9223372036854775807) (cv0 : -9223372036854775808 ≤ v') (cv1 : v' ≤ 9223372036854775807) : ∃ k, caliperlaw08_RoundRises.f k a0 a1 n l t v n' l' t' v' = some true := by
  obtain ⟨lx, tx, vx, ⟨K1, hK1⟩, hsx⟩ := small_spec n (ws_of_wf hw) (len_of_max hm) t v
  obtain ⟨ly, ty, vy, ⟨K2, hK2⟩, hsy⟩ := small_spec n' (ws_of_wf hw') (len_of_max hm') t' v'
  have hx := Rt.of_small hsx
  have hy := Rt.of_small hsy
  by_cases herr : ¬ (1 ≤ a0 ∧ a0 ≤ 14) ∨ (a1 = true ∧ a0 = 11)
  · obtain ⟨e, he, hN⟩ := near_err herr
    refine ⟨K1 + K2, ?_⟩
    have r1 := hK1 (K1 + K2) (by omega)
    have r2 := hK2 (K1 + K2) (by omega)
    simp only at r1 r2
    simp only [caliperlaw08_RoundRises.f, shown_T, r1, r2, hN n (K1 + K2) hx, hN n' (K1 + K2) hy, Option.bind_some, if_true]
    rw [if_neg he]
    rfl
  · have hid : 1 ≤ a0 ∧ a0 ≤ 14 := Classical.byContradiction fun h => herr (.inl h)
    have hn : ¬ (a1 = true ∧ a0 = 11) := fun h => herr (.inr h)
    obtain ⟨h1, h2⟩ := hid
    obtain ⟨k, o, ⟨K3, hK3⟩, hX⟩ := near_ex h1 h2 n hn hx
    obtain ⟨k', o', ⟨K4, hK4⟩, hY⟩ := near_ex h1 h2 n' hn hy
    obtain ⟨K5, hK5⟩ := exact_Cmp_spec (n := n) (m := n') hx.1 hx.2.1 hx.2.2.1 hy.1 hy.2.1 hy.2.2.1 hx.2.2.2.1 hx.2.2.2.2 hy.2.2.2.1 hy.2.2.2.2
    refine ⟨K1 + K2 + K3 + K4 + K5, ?_⟩
    have r1 := hK1 (K1 + K2 + K3 + K4 + K5) (by omega)
    have r2 := hK2 (K1 + K2 + K3 + K4 + K5) (by omega)
    have r3 := hK3 (K1 + K2 + K3 + K4 + K5) (by omega)
    have r4 := hK4 (K1 + K2 + K3 + K4 + K5) (by omega)
    have r5 := hK5 (K1 + K2 + K3 + K4 + K5) (by omega)
    simp only at r1 r2 r3 r4 r5
    simp only [caliperlaw08_RoundRises.f, shown_T, r1, r2, r3, r4, r5, Option.bind_some, if_true]
    have hle := fun h => near_mono h1 h2 hn hx hy hX hY h
    have hge := fun h => near_mono h1 h2 hn hy hx hY hX h
    generalize mag lx tx vx = X at *
    generalize mag ly ty vy = Y at *
    rcases Int.lt_trichotomy X Y with h | h | h
    · obtain ⟨g1, g2⟩ := hle (by omega)
      have e : sg X Y = -1 := by unfold sg; rw [if_pos h]
      rw [e, if_pos (by decide), if_pos (by omega)]
      cases o with
      | false => rfl
      | true => rw [g2 rfl]; rfl
    · obtain ⟨g1, g2⟩ := hle (by omega)
      obtain ⟨g3, g4⟩ := hge (by omega)
      have e : sg X Y = 0 := by unfold sg; rw [if_neg (by omega), if_pos h]
      have hoo : o = o' := by
        cases o <;> cases o'
        · rfl
        · exact g4 rfl
        · exact (g2 rfl).symm
        · rfl
      rw [e, if_neg (by decide), if_neg (by decide), if_pos (by omega), hoo, beq_self_eq_true]
    · obtain ⟨g1, g2⟩ := hge (by omega)
      have e : sg X Y = 1 := by unfold sg; rw [if_neg (by omega), if_neg (by omega)]
      rw [e, if_neg (by decide), if_pos (by decide), if_pos (by omega)]
      cases o with
      | true => rfl
      | false =>
        cases o' with
        | false => rfl
        | true => exact absurd (g2 rfl) (by decide)
end Go.Proofs.YtmcodbgbjjldnaaDoor.Pr
