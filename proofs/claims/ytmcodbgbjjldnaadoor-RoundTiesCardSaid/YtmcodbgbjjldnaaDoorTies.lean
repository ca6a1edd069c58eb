/- The plain law of RoundTies: on a boundary the even key is told. -/
import Derived.Test.YtmcodbgbjjldnaaDoorNear
import Derived.Test.YtmcodbgbjjldnaaDoorGivS
import Derived.Test.YtmcodbgbjjldnaaDoorPrx15
set_option linter.unusedVariables false
set_option linter.unusedSimpArgs false
namespace Go.Proofs.YtmcodbgbjjldnaaDoor.Pr
open Go.RowKit Go.Proofs.YtmcodbgbjjldnaaDoorW.PrintWords Go.Proofs.YtmcodbgbjjldnaaDoorW.PrintLast Go.Proofs.YtmcodbgbjjldnaaDoorW.PrintMore

theorem exact_Of_spec {m : Nat} (h1 : m < 18446744073709551616) {e : Int} (he : -5000 ≤ e ∧ e ≤ 5000) (n : Bool) : ∃ l, exact_Of.f 2 n (m : Int) e = some (n, l, e, 0, true) ∧ Ws l ∧ Tr l ∧ l.length ≤ 1 ∧ val l = m := by
  obtain ⟨r, a1, a2, a3, a4, a5⟩ := nat_Of_spec (x := (m : Int)) (by omega) (by omega)
  refine ⟨r, ?_, a3, a4, a5, a2⟩
  unfold exact_Of.f
  rw [if_neg (by decide), if_pos rfl, exact_in_ok he]
  simp only [a1, Option.bind_some, if_true]
theorem kind_top {id : Int} (h1 : 1 ≤ id) (h2 : id ≤ 14) : (ft id.toNat 0 = 3 ∧ id = 10 ∧ topK id = 128 ∧ IntKind.u64.wrap (ft id.toNat 4 + 1) = 128) ∨ (¬ ft id.toNat 0 = 3 ∧ ¬ id = 10 ∧ ft id.toNat 4 = (topK id : Int)) := by
  obtain rfl | rfl | rfl | rfl | rfl | rfl | rfl | rfl | rfl | rfl | rfl | rfl | rfl | rfl : id = 1 ∨ id = 2 ∨ id = 3 ∨ id = 4 ∨ id = 5 ∨ id = 6 ∨ id = 7 ∨ id = 8 ∨ id = 9 ∨ id = 10 ∨ id = 11 ∨ id = 12 ∨ id = 13 ∨ id = 14 := by omega
  all_goals first
    | exact .inl ⟨by decide +kernel, by decide +kernel, by decide +kernel, by decide +kernel⟩
    | exact .inr ⟨by decide +kernel, by decide +kernel, by decide +kernel⟩
theorem between_beyond {id k : Int} (h1 : 1 ≤ id) (h2 : id ≤ 14) (hk : (topK id : Int) < k) : value_Between.f id k = some (0, 0, 4) := by
  have hf : fitsE k (ft id.toNat 0) (ft id.toNat 4) 0 = 4 := by
    unfold fitsE
    rw [if_pos rfl]
    rcases kind_top h1 h2 with ⟨a1, a2, a3, a4⟩ | ⟨a1, a2, a3⟩
    · rw [if_pos a1, a4]
      clear a4
      rw [if_pos (by omega)]
    · rw [if_neg a1, if_pos (by omega)]
  unfold value_Between.f value_Between.g
  rw [forms_ok h1 h2, Option.bind_some]
  simp only [hf]
  rfl
theorem between_bad {id : Int} (h : ¬ (1 ≤ id ∧ id ≤ 14)) (k : Int) : value_Between.f id k = some (0, 0, 3) := by
  unfold value_Between.f value_Between.g
  rw [forms_bad h, Option.bind_some]
  rfl
theorem tmod_two (k : Nat) : Int.tmod (k : Int) 2 = ((k % 2 : Nat) : Int) := by
  rw [Int.tmod_eq_emod_of_nonneg (by omega)]
  omega
theorem shown_f : caliperlaw08_shown.f = some true := rfl

theorem Ties_pure (a0 a1 : Int) (b00 : -9223372036854775808 ≤ a0) (b01 : a0 ≤ 9223372036854775807) (b0 : 0 ≤ a1) (b1 : a1 ≤ 18446744073709551615) : ∃ k, caliperlaw08_RoundTies.f k a0 a1 = some true := by
  by_cases hid : 1 ≤ a0 ∧ a0 ≤ 14
  · obtain ⟨h1, h2⟩ := hid
    by_cases hk : (topK a0 : Int) < a1
    · refine ⟨0, ?_⟩
      unfold caliperlaw08_RoundTies.f
      rw [between_beyond h1 h2 hk, shown_f]
      rfl
    · obtain ⟨key, rfl⟩ := Int.eq_ofNat_of_zero_le b0
      have hkt : key ≤ topK a0 := by omega
      obtain ⟨m, e, hb⟩ := (lad_all h1 h2).1 key hkt
      obtain ⟨l, l1, l2, l3, l4, l5⟩ := exact_Of_spec hb.2.2.1 hb.2.2.2 false
      have hx : Rt l e 0 := ⟨l2, l3, by omega, hb.2.2.2, by decide⟩
      have hne : l ≠ [] := by
        rintro rfl
        have := hb.2.1
        simp only [val] at l5
        omega
      have hmag : mag l e 0 = bnd a0 key := by
        rw [bnd_of hb]
        unfold mag bmag bval
        rw [l5, Int.natCast_mul, ← cast_pow]
        rfl
      obtain ⟨m1, m2, m3, m4, m5, m6⟩ := most_spec h1 h2 false (by simp)
      obtain ⟨n1, n2⟩ := round_Nearest_spec h1 h2 (neg := false) (n := false) (by simp) hx
      rw [hmag] at n1 n2
      have e0 : ∀ f, caliperlaw08_RoundTies.f f a0 (key : Int) = caliperlaw08_RoundTies.j0 f a0 (key : Int) true (mostK a0 false : Int) false false l e 0 := fun f => by
        simp only [caliperlaw08_RoundTies.f, shown_f, Option.bind_some, hb.1, l1, m1, if_true]
        rfl
      by_cases hm : (key : Int) > (mostK a0 false : Int)
      · refine ⟨0 + 1, ?_⟩
        rw [e0]
        simp only [caliperlaw08_RoundTies.j0]
        rw [if_neg (by decide), if_pos hm]
      · have hm' : key ≤ mostK a0 false := by omega
        have low : ∀ j, j < key → wt a0 (bnd a0 key) j = false := fun j hj => by
          have := bnd_lt h1 h2 hj hkt
          rw [wt_false]
          omega
        by_cases hev : key % 2 = 0
        · have hL : Least a0 (bnd a0 key) (mostK a0 false) key := ⟨hm', by rw [wt_true]; exact .inr ⟨rfl, hev⟩, low⟩
          obtain ⟨K, hK⟩ := n2 key hL
          have hN := hK (K + 1) (by omega)
          refine ⟨K + 1 + 1, ?_⟩
          rw [e0]
          simp only [caliperlaw08_RoundTies.j0, hN, Option.bind_some, forms_ok h1 h2, caliperlaw08_RoundTies.j1, if_true, tmod_two, hev]
          rw [if_neg (by decide), if_neg hm, if_pos (by decide)]
          unfold told
          by_cases hk0 : key = 0
          · by_cases hk1 : ft a0.toNat 0 = 1
            · simp [hk0, hk1, hne]
            · simp [hk0, hk1]
          · simp [hk0]
        · have e1 : ¬ ((key % 2 : Nat) : Int) = 0 := by omega
          by_cases hmost : key = mostK a0 false
          · have hw : wt a0 (bnd a0 key) (mostK a0 false) = false := by
              rw [wt_false, ← hmost]
              omega
            obtain ⟨K, hK⟩ := n1 hw
            have hN := hK (K + 1) (by omega)
            refine ⟨K + 1 + 1, ?_⟩
            rw [e0]
            simp only [caliperlaw08_RoundTies.j0, hN, Option.bind_some, if_true, tmod_two]
            rw [if_neg (by decide), if_neg hm, if_neg e1, if_pos (by omega)]
          · have hlt : bnd a0 key < bnd a0 (key + 1) := bnd_lt h1 h2 (by omega) (by omega)
            have hL : Least a0 (bnd a0 key) (mostK a0 false) (key + 1) := ⟨by omega, by rw [wt_true]; exact .inl hlt, fun j hj => by
              rcases Nat.lt_or_ge j key with h | h
              · exact low j h
              · obtain rfl : j = key := by omega
                rw [wt_false]
                omega⟩
            obtain ⟨K, hK⟩ := n2 (key + 1) hL
            have hN := hK (K + 1) (by omega)
            have ht : told (ft a0.toNat 0) l (key + 1) = key + 1 := by
              unfold told
              rw [if_neg (by omega)]
            rw [ht] at hN
            have h64 := topK_lt h1 h2
            have w1 := Aside0.mk (show IntKind.u64.wrap ((key : Int) + 1) = ((key + 1 : Nat) : Int) from by rw [wu64 (by omega) (by omega)]; rfl)
            refine ⟨K + 1 + 1, ?_⟩
            rw [e0]
            simp only [caliperlaw08_RoundTies.j0, hN, Option.bind_some, if_true, tmod_two, w1.out]
            rw [if_neg (by decide), if_neg hm, if_neg e1, if_neg (by omega)]
            rfl
  · refine ⟨0, ?_⟩
    unfold caliperlaw08_RoundTies.f
    rw [between_bad hid, shown_f]
    rfl
end Go.Proofs.YtmcodbgbjjldnaaDoor.Pr
