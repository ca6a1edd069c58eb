/- The plain law of the law's cut number (small). -/
import Derived.Test.YtmcodbgbjjldnaaDoorRound
import Derived.Test.YtmcodbgbjjldnaaDoorGivS
import Derived.Test.YtmcodbgbjjldnaaDoorPrx4
set_option linter.unusedVariables false
set_option linter.unusedSimpArgs false
namespace Go.Proofs.YtmcodbgbjjldnaaDoor.Pr
open Go.RowKit Go.Proofs.YtmcodbgbjjldnaaDoorW.PrintWords Go.Proofs.YtmcodbgbjjldnaaDoorW.PrintLast Go.Proofs.YtmcodbgbjjldnaaDoorW.PrintMore

theorem shown_T : caliperlaw08_shown.f = some true := rfl
theorem cut_le (t : Int) : -1000 ≤ mx (mn t 1000) (-1000) ∧ mx (mn t 1000) (-1000) ≤ 1000 := by
  unfold mn mx
  (repeat' split) <;> omega
theorem small_l0 (b : Bool) (l : List Int) (t f : Int) : ∀ (d : Nat) (x : List Int), x.length = d → d ≤ 40 → Ev (fun k => caliperlaw08_small.l0 k x b l t f) (b, trimL x, mx (mn t 1000) (-1000), mx (mn f 1000) (-1000))
  | 0, x, hx, _ => by
    obtain rfl := List.eq_nil_of_length_eq_zero hx
    exact Ev.succ (Ev.of fun k => rfl)
  | d + 1, x, hx, hd => by
    rcases list_concat x with rfl | ⟨y, z, rfl⟩
    · simp at hx
    · have hy : y.length = d := by simpa using hx
      have ih := small_l0 b l t f d y hy (by omega)
      have hl : (y ++ [z]).length = d + 1 := hx
      have ew := Aside0.mk (show wrap64 (((d + 1 : Nat) : Int) - 1) = (d : Int) from by rw [w64 (by omega) (by omega)]; omega)
      have hr : rd (y ++ [z]) (d : Int) = z := by
        rw [rd_lt (by rw [hl]; omega)]
        simp [hy]
      have htk : (y ++ [z]).take ((d : Int).toNat) = y := by
        rw [Int.toNat_natCast, ← hy, List.take_left]
      refine Ev.succ ?_
      rw [trimL_concat]
      by_cases hz : z = 0
      · rw [if_pos hz]
        refine ih.congr fun k => ?_
        simp only [caliperlaw08_small.l0, hl, ew.out, hr, htk]
        rw [if_pos (by omega), if_pos (by omega), if_pos (by omega), if_pos hz, if_pos (by omega)]
      · rw [if_neg hz]
        refine Ev.of fun k => ?_
        simp only [caliperlaw08_small.l0, hl, ew.out, hr, htk]
        rw [if_pos (by omega), if_pos (by omega), if_pos (by omega), if_neg hz]
theorem small_spec (b : Bool) {l : List Int} (hw : Ws l) (hl : l.length ≤ 9223372036854775807) (t f : Int) :
    ∃ l' t' f', Ev (fun k => caliperlaw08_small.f k b l t f) (b, l', t', f') ∧ Ws l' ∧ Tr l' ∧ l'.length ≤ 40 ∧ (-1000 ≤ t' ∧ t' ≤ 1000) ∧ (-1000 ≤ f' ∧ f' ≤ 1000) := by
  have hmn : mn (l.length : Int) 40 = ((min l.length 40 : Nat) : Int) := by
    unfold mn
    split <;> omega
  have hlen : (l.take (min l.length 40)).length = min l.length 40 := by rw [List.length_take]; omega
  have h0 := small_l0 b l t f _ (l.take (min l.length 40)) hlen (by omega)
  refine ⟨_, _, _, h0.congr fun k => ?_, (hw.take _).trim, Tr.trim _, ?_, cut_le t, cut_le f⟩
  · simp only [caliperlaw08_small.f, hmn]
    rw [if_pos (by omega), if_pos (by omega), Int.toNat_natCast]
  · have := len_trim (l.take (min l.length 40))
    omega
theorem Rt.of_small {l : List Int} {t f : Int} (h : Ws l ∧ Tr l ∧ l.length ≤ 40 ∧ (-1000 ≤ t ∧ t ≤ 1000) ∧ (-1000 ≤ f ∧ f ≤ 1000)) : Rt l t f := ⟨h.1, h.2.1, by omega, by omega, by omega⟩
theorem ws_of_wf {l : List Int} (h : ∀ x ∈ l, (Lit.int .u64 x).wf = true) : Ws l := fun x hx => by
  have := h x hx
  simp [Lit.wf, IntKind.min, IntKind.max, IntKind.signed, IntKind.bits] at this
  omega
theorem len_of_max {l : List Int} (h : l.length ≤ maxLen) : l.length ≤ 9223372036854775807 := by
  have : maxLen ≤ 9223372036854775807 := by decide
  omega
end Go.Proofs.YtmcodbgbjjldnaaDoor.Pr
