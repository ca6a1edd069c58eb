/- The plain law of RoundHas: of a number that a form has it is that pattern. -/
import Derived.Test.YtmcodbgbjjldnaaDoorVal
import Derived.Test.YtmcodbgbjjldnaaDoorPrx17
set_option linter.unusedVariables false
set_option linter.unusedSimpArgs false
namespace Go.Proofs.YtmcodbgbjjldnaaDoor.Pr
open Go.RowKit Go.Proofs.YtmcodbgbjjldnaaDoorW.PrintWords Go.Proofs.YtmcodbgbjjldnaaDoorW.PrintLast Go.Proofs.YtmcodbgbjjldnaaDoorW.PrintMore

theorem exact_Of_num {m : Nat} (h1 : m < 18446744073709551616) {e : Int} (he : -5000 ≤ e ∧ e ≤ 5000) (n : Bool) : ∃ l, exact_Of.f 2 n (m : Int) e = some (n, l, e, 0, true) ∧ Ws l ∧ Tr l ∧ l.length ≤ 1 ∧ val l = m := by
  obtain ⟨r, a1, a2, a3, a4, a5⟩ := nat_Of_spec (x := (m : Int)) (by omega) (by omega)
  refine ⟨r, ?_, a3, a4, a5, a2⟩
  unfold exact_Of.f
  rw [if_neg (by decide), if_pos rfl, exact_in_ok he]
  simp only [a1, Option.bind_some, if_true]
theorem mag_num {m : Nat} {e : Int} {l : List Int} (h : val l = m) : mag l e 0 = bmag m e := by
  unfold mag bmag bval
  rw [h, Int.natCast_mul, ← cast_pow]
  rfl
/-- Of a pattern that is a number: what it means, and that Round of this is it. -/
theorem has_pat {id mode : Int} (h1 : 1 ≤ id) (h2 : id ≤ 14) (hmode : mode = 1 ∨ mode = 2) {p : Nat} (hp : p < 2 ^ wid id) (hc : clsN id p = 1 ∨ clsN id p = 2) :
    ∃ (b : Bool) (m e : Int) (l : List Int) (t : Int), value_Decode.f id (p : Int) = some (clsN id p, b, m, e, 0) ∧ exact_Of.f (clsN id p) b m e = some (b, l, t, 0, true) ∧ Rt l t 0 ∧ Ev (fun f => round_Round.f f id mode b l t 0) ((p : Int), 0) := by
  obtain ⟨c1, c2, c3, c4⟩ := cls_num h1 h2 hp hc
  obtain ⟨f1, f2, f3, f4, f5, f6, f7, f8, f9, f10, f11, f12⟩ := form_facts h1 h2
  obtain ⟨_, m2, _⟩ := most_spec h1 h2 _ c2
  have hd := decode_spec h1 h2 hp
  generalize (partsN id p).1 = b at *
  generalize (partsN id p).2 = key at *
  have fin : ∀ {l : List Int} {t : Int}, Rt l t 0 → (id = 11 → l ≠ []) → (key = 0 → ft id.toNat 0 = 1 → l = []) → Least id (mag l t 0) (mostK id b) key → Ev (fun f => round_Round.f f id mode b l t 0) ((p : Int), 0) := by
    intro l t hx hne hz hL
    obtain ⟨q, hq, hr⟩ := round_Round_spec h1 h2 hmode b hx
    rcases hr with ⟨r1, r2, _⟩ | ⟨_, r2⟩
    · exfalso
      rcases r2 with r2 | r2
      · exact c2 ⟨r2, r1⟩
      · exact hne r1 r2
    · rcases r2 with ⟨r3, _⟩ | ⟨a, r3, rfl⟩
      · rw [wt_mono h1 h2 hL.le m2 hL.yes] at r3
        cases r3
      · obtain rfl := hL.uniq r3
        have ht : told (ft id.toNat 0) l key = key := by
          unfold told
          split
          · rename_i h
            exact absurd (hz h.2.1 h.1) h.2.2
          · rfl
        rw [ht, c3] at hq
        exact hq
  by_cases h1' : clsN id p = 1
  · obtain ⟨k0, k1⟩ := c4.1 h1'
    subst k0
    have hx : Rt [] 0 0 := ⟨Ws.nil, fun x h => by simp at h, by decide, by decide, by decide⟩
    refine ⟨b, 0, 0, [], 0, ?_, ?_, hx, fin hx (fun h => absurd h k1) (fun _ _ => rfl) ?_⟩
    · rw [hd, h1', if_neg (by decide), if_pos rfl]
    · rw [h1']
      rfl
    · rw [mag_nil]
      exact zero_least h1 h2 _
  · have h2' := hc.resolve_left h1'
    have h0 : 0 < key ∨ id = 11 := by
      by_cases hk : key = 0
      · exact .inr (Classical.byContradiction fun h => h1' (c4.2 ⟨hk, h⟩))
      · exact .inl (by omega)
    obtain ⟨m, e, a1, a2⟩ := at_bnd h1 h2 (k := key) (by omega) h0
    obtain ⟨l, l1, l2, l3, l4, l5⟩ := exact_Of_num a1.2.2.1 a1.2.2.2 b
    have hx : Rt l e 0 := ⟨l2, l3, by omega, a1.2.2.2, by decide⟩
    have hne : l ≠ [] := by
      rintro rfl
      have := a1.2.1
      simp only [val] at l5
      omega
    refine ⟨b, m, e, l, e, ?_, ?_, hx, fin hx (fun _ => hne) (fun hk ht => ?_) ?_⟩
    · rw [hd, h2', if_pos rfl, a1.1]
      rfl
    · rw [h2']
      exact l1
    · have := h0.resolve_left (by omega)
      have := f7 this
      omega
    · rw [mag_num l5]
      exact a2 _ c1 m2

theorem Has_pure (a0 : Int) (a1 : Bool) (a2 : Int) (b00 : -9223372036854775808 ≤ a0) (b01 : a0 ≤ 9223372036854775807) (b0 : 0 ≤ a2) (b1 : a2 ≤ 18446744073709551615) : ∃ k, caliperlaw08_RoundHas.f k a0 a1 a2 = some true := by
  obtain ⟨p, rfl⟩ := Int.eq_ofNat_of_zero_le b0
  have e0 : ∀ k, caliperlaw08_RoundHas.f k a0 a1 (p : Int) = caliperlaw08_RoundHas.j0 k a0 (p : Int) true (if a1 = true then 2 else 1) := fun k => by
    unfold caliperlaw08_RoundHas.f
    rw [shown_T, Option.bind_some]
    cases a1 <;> rfl
  have hmode : (if a1 = true then (2 : Int) else 1) = 1 ∨ (if a1 = true then (2 : Int) else 1) = 2 := by split <;> simp
  generalize (if a1 = true then (2 : Int) else 1) = mode at *
  by_cases hid : 1 ≤ a0 ∧ a0 ≤ 14
  · obtain ⟨h1, h2⟩ := hid
    by_cases hp : p < 2 ^ wid a0
    · by_cases hc : clsN a0 p = 1 ∨ clsN a0 p = 2
      · obtain ⟨b, m, e, l, t, d1, d2, hx, K, hK⟩ := has_pat h1 h2 hmode hp hc
        refine ⟨K + 1 + 1, ?_⟩
        have r1 := hK K (Nat.le_refl _)
        simp only at r1
        have r2 : ∀ y : Bool, y = false → caliperlaw08_RoundHas.j1 (K + 1) a0 (p : Int) true mode y (clsN a0 p) b m e = some true := by
          rintro _ rfl
          simp only [caliperlaw08_RoundHas.j1, d2, Option.bind_some, r1, if_true]
          rfl
        rw [e0]
        simp only [caliperlaw08_RoundHas.j0, d1, Option.bind_some, if_true]
        by_cases c2 : clsN a0 p = 2
        · rw [if_pos c2]
          exact r2 _ rfl
        · rw [if_neg c2]
          refine r2 _ ?_
          rw [hc.resolve_right c2]
          rfl
      · refine ⟨0 + 1 + 1, ?_⟩
        rw [e0]
        have hd := decode_spec h1 h2 hp
        rw [if_neg (fun h => hc (.inr h)), if_neg (fun h => hc (.inl h))] at hd
        simp only [caliperlaw08_RoundHas.j0]
        rw [hd]
        by_cases c3 : clsN a0 p = 3
        · rw [if_pos c3]
          rfl
        · rw [if_neg c3]
          have e2 : (clsN a0 p != 1) = true := bne_iff_ne.2 fun h => hc (.inl h)
          simp only [Option.bind_some, if_true, e2]
          rw [if_neg (fun h => hc (.inr h))]
          rfl
    · refine ⟨0 + 1 + 1, ?_⟩
      rw [e0]
      simp only [caliperlaw08_RoundHas.j0, decode_big h1 h2 (p := p) (by omega) hp]
      rfl
  · refine ⟨0 + 1 + 1, ?_⟩
    rw [e0]
    simp only [caliperlaw08_RoundHas.j0, decode_bad hid]
    rfl
end Go.Proofs.YtmcodbgbjjldnaaDoor.Pr
