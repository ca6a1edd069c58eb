/- What the pattern of a key means, and that a key's own number is told that key. -/
import Derived.Test.YtnbkjlebphmpnaaDoorAt
import Derived.Test.YtnbkjlebphmpnaaDoorRound
set_option linter.unusedVariables false
set_option linter.unusedSimpArgs false
namespace Go.Proofs.YtnbkjlebphmpnaaDoor.Pr
open Go.RowKit Go.Proofs.YtnbkjlebphmpnaaDoorW.PrintWords Go.Proofs.YtnbkjlebphmpnaaDoorW.PrintLast Go.Proofs.YtnbkjlebphmpnaaDoorW.PrintMore

theorem at_bnd {id : Int} (h1 : 1 ≤ id) (h2 : id ≤ 14) {k : Nat} (hk : k ≤ topK id) (h0 : 0 < k ∨ id = 11) :
    ∃ m e, AtOk (ft id.toNat 0) (ft id.toNat 1) (ft id.toNat 2) (ft id.toNat 3) (k : Int) m e ∧ ∀ M, k ≤ M → M ≤ topK id → Least id (bmag m e) M k := by
  obtain ⟨m, e, a1, a2⟩ := at_all h1 h2 hk h0
  refine ⟨m, e, a1, fun M hM hT => ⟨hM, ?_, fun j hj => ?_⟩⟩
  · obtain ⟨m', e', hb⟩ := (lad_all h1 h2).1 k hk
    rw [wt_true, bnd_of hb]
    left
    unfold bmag
    exact Int.mul_lt_mul_of_pos_right (Int.ofNat_lt.2 ((a2 k m' e' hk hb).2 (Nat.le_refl _))) five_pos
  · obtain ⟨m', e', hb⟩ := (lad_all h1 h2).1 j (by omega)
    have h3 : bmag m' e' < bmag m e := by
      unfold bmag
      exact Int.mul_lt_mul_of_pos_right (Int.ofNat_lt.2 ((a2 j m' e' (by omega) hb).1 hj)) five_pos
    rw [wt_false, bnd_of hb]
    omega
theorem zero_least {id : Int} (h1 : 1 ≤ id) (h2 : id ≤ 14) (M : Nat) : Least id 0 M 0 :=
  ⟨Nat.zero_le _, by rw [wt_true]; exact .inl (bnd_pos h1 h2 (Nat.zero_le _)), fun j hj => absurd hj (Nat.not_lt_zero j)⟩
theorem mag_nil (t f : Int) : mag [] t f = 0 := by unfold mag; simp [val]

end Go.Proofs.YtnbkjlebphmpnaaDoor.Pr
