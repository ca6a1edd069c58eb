/- Contracts by hand: value.Most, value.fits. -/
import Derived.Test.YtmcodbgbjjldnaaDoorGivB
set_option linter.unusedVariables false
set_option linter.unusedSimpArgs false
namespace Go.Proofs.YtmcodbgbjjldnaaDoor.Pr
open Go.RowKit Go.Proofs.YtmcodbgbjjldnaaDoorW.PrintWords Go.Proofs.YtmcodbgbjjldnaaDoorW.PrintLast Go.Proofs.YtmcodbgbjjldnaaDoorW.PrintMore

theorem fnOf_form (k : Int) : fnOf k = .nilFunc ∨ ∃ fn : Fn, fnOf k = .func fn #[] #[] := by
  unfold fnOf
  repeat' split
  all_goals first | exact .inl rfl | exact .inr ⟨_, rfl⟩

def value_Most.g (a1 : Bool) (q1 q5 q8 : Int) : Option (Int × Int) :=
  if q8 = 0 then (if a1 = true then (if q1 = 4 then some (0, 5) else if q1 = 3 then some (IntKind.u64.wrap (q5 + 1), 0) else some (q5, 0)) else some (q5, 0)) else some (0, q8)
def value_Most.f (a0 : Int) (a1 : Bool) : Option (Int × Int) := (forms_Of.f a0).bind fun q => value_Most.g a1 q.1 q.2.2.2.2.1 q.2.2.2.2.2.2.2

set_option maxHeartbeats 1000000 in
set_option maxRecDepth 100000 in
theorem value_Most.calls (a0 : Int) (a1 : Bool) (r1 r2 : Int) (w : World) (hG : Glob w) (h : value_Most.f a0 a1 = some (r1, r2)) :
    Calls Tryd.prog 22 #[.int .i64 a0, .bool a1] w fun e w' => e = .returned (.tuple #[.int .u64 r1, .int .i64 r2]) ∧ Below w.heap.size w w' := by
  obtain ⟨⟨q1, q2, q3, q4, q5, q6, q7, q8⟩, hf, h⟩ := Option.bind_eq_some_iff.1 h
  replace h : value_Most.g a1 q1 q5 q8 = some (r1, r2) := h
  unfold value_Most.g at h
  have HG := Aside0.mk hG
  have HF := Aside0.mk hf
  clear hG hf
  rcases fnOf_form q1 with hn | ⟨fn, hn⟩
  all_goals
    have HN := Aside0.mk hn
    clear hn
    by_cases c8 : q8 = 0
    · rw [if_pos c8] at h
      have b8 : (q8 == 0) = true := beq_iff_eq.2 c8
      have b8' : (q8 != 0) = false := bne_eq_false_iff_eq.2 c8
      clear c8
      cases a1 with
      | false =>
        simp only [Bool.false_eq_true, if_false, Option.some.injEq, Prod.mk.injEq] at h
        obtain ⟨rfl, rfl⟩ := h
        go_enter Tryd.func22, Tryd.ntmps22
        go_wp2_with (go_at_call 49; (with_reducible first | refine (of_nil a0 q1 q2 q3 q4 q5 q6 q7 q8 _ HG.out HF.out HN.out).mono ?_ | refine (of_func fn a0 q1 q2 q3 q4 q5 q6 q7 q8 _ HG.out HF.out HN.out).mono ?_); rintro e w1 ⟨rfl, hb1⟩)
        go_ret2
        exact ⟨rfl, below_alloc hb1 _⟩
      | true =>
        simp only [if_true] at h
        by_cases c4 : q1 = 4
        · rw [if_pos c4] at h
          simp only [Option.some.injEq, Prod.mk.injEq] at h
          obtain ⟨rfl, rfl⟩ := h
          have b4 : (q1 == 4) = true := beq_iff_eq.2 c4
          clear c4
          go_enter Tryd.func22, Tryd.ntmps22
          go_wp2_with (go_at_call 49; (with_reducible first | refine (of_nil a0 q1 q2 q3 q4 q5 q6 q7 q8 _ HG.out HF.out HN.out).mono ?_ | refine (of_func fn a0 q1 q2 q3 q4 q5 q6 q7 q8 _ HG.out HF.out HN.out).mono ?_); rintro e w1 ⟨rfl, hb1⟩)
          go_ret2
          exact ⟨rfl, below_alloc hb1 _⟩
        · rw [if_neg c4] at h
          have b4 : (q1 == 4) = false := beq_eq_false_iff_ne.2 c4
          clear c4
          by_cases c3 : q1 = 3
          · rw [if_pos c3] at h
            simp only [Option.some.injEq, Prod.mk.injEq] at h
            obtain ⟨rfl, rfl⟩ := h
            have b3 : (q1 == 3) = true := beq_iff_eq.2 c3
            clear c3
            go_enter Tryd.func22, Tryd.ntmps22
            go_wp2_with (go_at_call 49; (with_reducible first | refine (of_nil a0 q1 q2 q3 q4 q5 q6 q7 q8 _ HG.out HF.out HN.out).mono ?_ | refine (of_func fn a0 q1 q2 q3 q4 q5 q6 q7 q8 _ HG.out HF.out HN.out).mono ?_); rintro e w1 ⟨rfl, hb1⟩)
            go_ret2
            exact ⟨rfl, below_alloc hb1 _⟩
          · rw [if_neg c3] at h
            simp only [Option.some.injEq, Prod.mk.injEq] at h
            obtain ⟨rfl, rfl⟩ := h
            have b3 : (q1 == 3) = false := beq_eq_false_iff_ne.2 c3
            clear c3
            go_enter Tryd.func22, Tryd.ntmps22
            go_wp2_with (go_at_call 49; (with_reducible first | refine (of_nil a0 q1 q2 q3 q4 q5 q6 q7 q8 _ HG.out HF.out HN.out).mono ?_ | refine (of_func fn a0 q1 q2 q3 q4 q5 q6 q7 q8 _ HG.out HF.out HN.out).mono ?_); rintro e w1 ⟨rfl, hb1⟩)
            go_ret2
            exact ⟨rfl, below_alloc hb1 _⟩
    · rw [if_neg c8] at h
      simp only [Option.some.injEq, Prod.mk.injEq] at h
      obtain ⟨rfl, rfl⟩ := h
      have b8 : (q8 == 0) = false := beq_eq_false_iff_ne.2 c8
      have b8' : (q8 != 0) = true := bne_iff_ne.2 c8
      clear c8
      go_enter Tryd.func22, Tryd.ntmps22
      go_wp2_with (go_at_call 49; (with_reducible first | refine (of_nil a0 q1 q2 q3 q4 q5 q6 q7 q8 _ HG.out HF.out HN.out).mono ?_ | refine (of_func fn a0 q1 q2 q3 q4 q5 q6 q7 q8 _ HG.out HF.out HN.out).mono ?_); rintro e w1 ⟨rfl, hb1⟩)
      go_ret2
      exact ⟨rfl, below_alloc hb1 _⟩

end Go.Proofs.YtmcodbgbjjldnaaDoor.Pr
