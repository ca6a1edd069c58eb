/- Contracts by hand: value.Pattern. -/
import Derived.Test.YtmcodbgbjjldnaaDoorGivF
import Derived.Test.YtmcodbgbjjldnaaDoorPrx2
set_option linter.unusedVariables false
set_option linter.unusedSimpArgs false
namespace Go.Proofs.YtmcodbgbjjldnaaDoor.Pr
open Go.RowKit Go.Proofs.YtmcodbgbjjldnaaDoorW.PrintWords Go.Proofs.YtmcodbgbjjldnaaDoorW.PrintLast Go.Proofs.YtmcodbgbjjldnaaDoorW.PrintMore

/-- The pattern of a sign and a magnitude. -/
def value_Pattern.g (a1 : Bool) (a2 q1 q2 q3 q4 q5 q6 q7 : Int) : Option (Int × Int) :=
  if a1 = true then (if q1 = 2 then (forms_Form_Sign.f q1 q2 q3 q4 q5 q6 q7).bind fun s => some (Go.bits .or .u64 a2 s, 0) else (forms_Form_Mask.f q1 q2 q3 q4 q5 q6 q7).bind fun m => some (Go.bits .and .u64 (IntKind.u64.wrap (-a2)) m, 0)) else some (a2, 0)
def value_Pattern.f (a0 : Int) (a1 : Bool) (a2 : Int) : Option (Int × Int) := (value_Most.f a0 a1).bind fun m => if m.2 = 0 then (if a2 > m.1 then some (0, 4) else (forms_Of.f a0).bind fun q => value_Pattern.g a1 a2 q.1 q.2.1 q.2.2.1 q.2.2.2.1 q.2.2.2.2.1 q.2.2.2.2.2.1 q.2.2.2.2.2.2.1) else some (0, m.2)
set_option maxHeartbeats 4000000 in
set_option maxRecDepth 100000 in
theorem value_Pattern.calls (a0 : Int) (a1 : Bool) (a2 : Int) (r1 r2 : Int) (w : World) (hG : Glob w) (h : value_Pattern.f a0 a1 a2 = some (r1, r2)) :
    Calls Tryd.prog 35 #[.int .i64 a0, .bool a1, .int .u64 a2] w fun e w' => e = .returned (.tuple #[.int .u64 r1, .int .i64 r2]) ∧ Below w.heap.size w w' := by
  obtain ⟨⟨m, e⟩, hm, h⟩ := Option.bind_eq_some_iff.1 h
  replace h : (if e = 0 then (if a2 > m then some (0, 4) else (forms_Of.f a0).bind fun q => value_Pattern.g a1 a2 q.1 q.2.1 q.2.2.1 q.2.2.2.1 q.2.2.2.2.1 q.2.2.2.2.2.1 q.2.2.2.2.2.2.1) else some (0, e)) = some (r1, r2) := h
  have HG := Aside0.mk hG
  have HM := Aside0.mk hm
  clear hG hm
  by_cases c0 : e = 0
  · rw [if_pos c0] at h
    have b0 : (e == 0) = true := beq_iff_eq.2 c0
    have b0' : (e != 0) = false := bne_eq_false_iff_eq.2 c0
    clear c0
    by_cases c1 : a2 > m
    · rw [if_pos c1] at h
      simp only [Option.some.injEq, Prod.mk.injEq] at h
      obtain ⟨rfl, rfl⟩ := h
      have b1 : decide (m < a2) = true := decide_eq_true c1
      clear c1
      go_enter Tryd.func35, Tryd.ntmps35
      go_wp2_with (go_at_call 22; (with_reducible refine (value_Most.calls a0 _ m e _ HG.out HM.out).mono ?_); rintro e_ w0 ⟨rfl, hb0⟩; have HB0 := Aside0.mk hb0; clear hb0)
      go_ret2
      exact ⟨rfl, HB0.out⟩
    · rw [if_neg c1] at h
      have b1 : decide (m < a2) = false := decide_eq_false c1
      clear c1
      obtain ⟨⟨q1, q2, q3, q4, q5, q6, q7, q8⟩, hf, h⟩ := Option.bind_eq_some_iff.1 h
      replace h : value_Pattern.g a1 a2 q1 q2 q3 q4 q5 q6 q7 = some (r1, r2) := h
      have HF := Aside0.mk hf
      clear hf
      unfold value_Pattern.g at h
      cases a1 with
      | false =>
        simp only [Bool.false_eq_true, if_false, Option.some.injEq, Prod.mk.injEq] at h
        obtain ⟨rfl, rfl⟩ := h
        rcases fnOf_form q1 with hn | ⟨fn, hn⟩
        · have HN := Aside0.mk hn
          clear hn
          go_enter Tryd.func35, Tryd.ntmps35
          go_wp2_with (first | (go_at_call 49; (with_reducible refine (of_nil a0 q1 q2 q3 q4 q5 q6 q7 q8 _ ?hg HF.out HN.out).mono ?_); (case hg => exact Glob.below HG.out (by repeat (with_reducible first | exact HB0.out | apply below_alloc | apply pw_below_drewN | apply below_drew1))); rintro e_ w1 ⟨rfl, hb1⟩; have HB1 := Aside0.mk (below_step (by repeat (with_reducible first | exact HB0.out | apply below_alloc | apply pw_below_drewN | apply below_drew1)) hb1); clear hb1) | (go_at_call 22; (with_reducible refine (value_Most.calls a0 _ m e _ HG.out HM.out).mono ?_); rintro e_ w0 ⟨rfl, hb0⟩; have HB0 := Aside0.mk hb0; clear hb0))
          go_ret2
          exact ⟨rfl, by repeat (with_reducible first | exact HB1.out | apply below_alloc | apply pw_below_drewN | apply below_drew1)⟩
        · have HN := Aside0.mk hn
          clear hn
          go_enter Tryd.func35, Tryd.ntmps35
          go_wp2_with (first | (go_at_call 49; (with_reducible refine (of_func fn a0 q1 q2 q3 q4 q5 q6 q7 q8 _ ?hg HF.out HN.out).mono ?_); (case hg => exact Glob.below HG.out (by repeat (with_reducible first | exact HB0.out | apply below_alloc | apply pw_below_drewN | apply below_drew1))); rintro e_ w1 ⟨rfl, hb1⟩; have HB1 := Aside0.mk (below_step (by repeat (with_reducible first | exact HB0.out | apply below_alloc | apply pw_below_drewN | apply below_drew1)) hb1); clear hb1) | (go_at_call 22; (with_reducible refine (value_Most.calls a0 _ m e _ HG.out HM.out).mono ?_); rintro e_ w0 ⟨rfl, hb0⟩; have HB0 := Aside0.mk hb0; clear hb0))
          go_ret2
          exact ⟨rfl, by repeat (with_reducible first | exact HB1.out | apply below_alloc | apply pw_below_drewN | apply below_drew1)⟩
      | true =>
        simp only [if_true] at h
        by_cases c2 : q1 = 2
        · rw [if_pos c2] at h
          obtain ⟨s, hs, h⟩ := Option.bind_eq_some_iff.1 h
          simp only [Option.some.injEq, Prod.mk.injEq] at h
          obtain ⟨rfl, rfl⟩ := h
          have HS := Aside0.mk hs
          have b2 : (q1 == 2) = true := beq_iff_eq.2 c2
          clear hs c2
          rcases fnOf_form q1 with hn | ⟨fn, hn⟩
          · have HN := Aside0.mk hn
            clear hn
            go_enter Tryd.func35, Tryd.ntmps35
            go_wp2_with (first | (go_at_call 49; (with_reducible refine (of_nil a0 q1 q2 q3 q4 q5 q6 q7 q8 _ ?hg HF.out HN.out).mono ?_); (case hg => exact Glob.below HG.out (by repeat (with_reducible first | exact HB0.out | apply below_alloc | apply pw_below_drewN | apply below_drew1))); rintro e_ w1 ⟨rfl, hb1⟩; have HB1 := Aside0.mk (below_step (by repeat (with_reducible first | exact HB0.out | apply below_alloc | apply pw_below_drewN | apply below_drew1)) hb1); clear hb1) | (go_at_call 22; (with_reducible refine (value_Most.calls a0 _ m e _ HG.out HM.out).mono ?_); rintro e_ w0 ⟨rfl, hb0⟩; have HB0 := Aside0.mk hb0; clear hb0) | (go_at_call 24; (with_reducible refine (forms_Form_Sign.calls q1 q2 q3 q4 q5 q6 q7 s _ HS.out).mono ?_); rintro e_ w2 ⟨rfl, hb2⟩; have HB2 := Aside0.mk (below_step (by repeat (with_reducible first | exact HB1.out | apply below_alloc | apply pw_below_drewN | apply below_drew1)) hb2); clear hb2))
            go_ret2
            exact ⟨rfl, by repeat (with_reducible first | exact HB2.out | apply below_alloc | apply pw_below_drewN | apply below_drew1)⟩
          · have HN := Aside0.mk hn
            clear hn
            go_enter Tryd.func35, Tryd.ntmps35
            go_wp2_with (first | (go_at_call 49; (with_reducible refine (of_func fn a0 q1 q2 q3 q4 q5 q6 q7 q8 _ ?hg HF.out HN.out).mono ?_); (case hg => exact Glob.below HG.out (by repeat (with_reducible first | exact HB0.out | apply below_alloc | apply pw_below_drewN | apply below_drew1))); rintro e_ w1 ⟨rfl, hb1⟩; have HB1 := Aside0.mk (below_step (by repeat (with_reducible first | exact HB0.out | apply below_alloc | apply pw_below_drewN | apply below_drew1)) hb1); clear hb1) | (go_at_call 22; (with_reducible refine (value_Most.calls a0 _ m e _ HG.out HM.out).mono ?_); rintro e_ w0 ⟨rfl, hb0⟩; have HB0 := Aside0.mk hb0; clear hb0) | (go_at_call 24; (with_reducible refine (forms_Form_Sign.calls q1 q2 q3 q4 q5 q6 q7 s _ HS.out).mono ?_); rintro e_ w2 ⟨rfl, hb2⟩; have HB2 := Aside0.mk (below_step (by repeat (with_reducible first | exact HB1.out | apply below_alloc | apply pw_below_drewN | apply below_drew1)) hb2); clear hb2))
            go_ret2
            exact ⟨rfl, by repeat (with_reducible first | exact HB2.out | apply below_alloc | apply pw_below_drewN | apply below_drew1)⟩
        · rw [if_neg c2] at h
          obtain ⟨s, hs, h⟩ := Option.bind_eq_some_iff.1 h
          simp only [Option.some.injEq, Prod.mk.injEq] at h
          obtain ⟨rfl, rfl⟩ := h
          have HS := Aside0.mk hs
          have b2 : (q1 == 2) = false := beq_eq_false_iff_ne.2 c2
          clear hs c2
          rcases fnOf_form q1 with hn | ⟨fn, hn⟩
          · have HN := Aside0.mk hn
            clear hn
            go_enter Tryd.func35, Tryd.ntmps35
            go_wp2_with (first | (go_at_call 49; (with_reducible refine (of_nil a0 q1 q2 q3 q4 q5 q6 q7 q8 _ ?hg HF.out HN.out).mono ?_); (case hg => exact Glob.below HG.out (by repeat (with_reducible first | exact HB0.out | apply below_alloc | apply pw_below_drewN | apply below_drew1))); rintro e_ w1 ⟨rfl, hb1⟩; have HB1 := Aside0.mk (below_step (by repeat (with_reducible first | exact HB0.out | apply below_alloc | apply pw_below_drewN | apply below_drew1)) hb1); clear hb1) | (go_at_call 22; (with_reducible refine (value_Most.calls a0 _ m e _ HG.out HM.out).mono ?_); rintro e_ w0 ⟨rfl, hb0⟩; have HB0 := Aside0.mk hb0; clear hb0) | (go_at_call 25; (with_reducible refine (forms_Form_Mask.calls q1 q2 q3 q4 q5 q6 q7 s _ HS.out).mono ?_); rintro e_ w2 ⟨rfl, hb2⟩; have HB2 := Aside0.mk (below_step (by repeat (with_reducible first | exact HB1.out | apply below_alloc | apply pw_below_drewN | apply below_drew1)) hb2); clear hb2))
            go_ret2
            exact ⟨rfl, by repeat (with_reducible first | exact HB2.out | apply below_alloc | apply pw_below_drewN | apply below_drew1)⟩
          · have HN := Aside0.mk hn
            clear hn
            go_enter Tryd.func35, Tryd.ntmps35
            go_wp2_with (first | (go_at_call 49; (with_reducible refine (of_func fn a0 q1 q2 q3 q4 q5 q6 q7 q8 _ ?hg HF.out HN.out).mono ?_); (case hg => exact Glob.below HG.out (by repeat (with_reducible first | exact HB0.out | apply below_alloc | apply pw_below_drewN | apply below_drew1))); rintro e_ w1 ⟨rfl, hb1⟩; have HB1 := Aside0.mk (below_step (by repeat (with_reducible first | exact HB0.out | apply below_alloc | apply pw_below_drewN | apply below_drew1)) hb1); clear hb1) | (go_at_call 22; (with_reducible refine (value_Most.calls a0 _ m e _ HG.out HM.out).mono ?_); rintro e_ w0 ⟨rfl, hb0⟩; have HB0 := Aside0.mk hb0; clear hb0) | (go_at_call 25; (with_reducible refine (forms_Form_Mask.calls q1 q2 q3 q4 q5 q6 q7 s _ HS.out).mono ?_); rintro e_ w2 ⟨rfl, hb2⟩; have HB2 := Aside0.mk (below_step (by repeat (with_reducible first | exact HB1.out | apply below_alloc | apply pw_below_drewN | apply below_drew1)) hb2); clear hb2))
            go_ret2
            exact ⟨rfl, by repeat (with_reducible first | exact HB2.out | apply below_alloc | apply pw_below_drewN | apply below_drew1)⟩
  · rw [if_neg c0] at h
    simp only [Option.some.injEq, Prod.mk.injEq] at h
    obtain ⟨rfl, rfl⟩ := h
    have b0 : (e == 0) = false := beq_eq_false_iff_ne.2 c0
    have b0' : (e != 0) = true := bne_iff_ne.2 c0
    clear c0
    go_enter Tryd.func35, Tryd.ntmps35
    go_wp2_with (go_at_call 22; (with_reducible refine (value_Most.calls a0 _ m e _ HG.out HM.out).mono ?_); rintro e_ w0 ⟨rfl, hb0⟩; have HB0 := Aside0.mk hb0; clear hb0)
    go_ret2
    exact ⟨rfl, HB0.out⟩

end Go.Proofs.YtmcodbgbjjldnaaDoor.Pr
