/- Contracts by hand: the four ways of value.numbers, shape.parts, shape.class. -/
import Derived.Test.YtmcodbgbjjldnaaDoorGivQ
import Derived.Test.YtmcodbgbjjldnaaDoorGivD
import Derived.Test.YtmcodbgbjjldnaaDoorPrx1
set_option linter.unusedVariables false
set_option linter.unusedSimpArgs false
namespace Go.Proofs.YtmcodbgbjjldnaaDoor.Pr
open Go.RowKit Go.Proofs.YtmcodbgbjjldnaaDoorW.PrintWords Go.Proofs.YtmcodbgbjjldnaaDoorW.PrintLast Go.Proofs.YtmcodbgbjjldnaaDoorW.PrintMore

set_option maxHeartbeats 8000000 in
set_option maxRecDepth 100000 in
theorem num1 (q1 q2 q3 q4 q5 q6 q7 more key m e : Int) (w : World) (hG : Glob w) (h : posit_value.f 9 (wrap64 (q2 + more)) key = some (m, e)) :
    Calls Tryd.prog 87 #[.agg #[.int .i64 q1, .int .i64 q2, .int .i64 q3, .int .i64 q4, .int .u64 q5, .int .u64 q6, .int .u64 q7], .int .i64 more, .int .u64 key] w fun e_ w' => e_ = .returned (.tuple #[.int .u64 m, .int .i64 e]) ∧ Below w.heap.size w w' := by
  have HG := Aside0.mk hG
  have HF := Aside0.mk h
  clear hG h
  go_enter Tryd.func87, Tryd.ntmps87
  go_wp2_with (go_at_call 88; (with_reducible refine (posit_Value.calls 9 _ key m e _ ?hg HF.out).mono ?_); (case hg => exact Glob.below HG.out (below_alloc (Below.refl _ _) _)); rintro e_ w1 ⟨rfl, hb1⟩)
  go_ret2
  exact ⟨rfl, below_step (below_alloc (Below.refl _ _) _) hb1⟩

set_option maxHeartbeats 8000000 in
set_option maxRecDepth 100000 in
theorem num2 (q1 q2 q3 q4 q5 q6 q7 more key m e r3 : Int) (w : World) (hG : Glob w) (h : mini_Value.f 9 (wrap64 (q3 + more)) q4 key = some (m, e, r3)) :
    Calls Tryd.prog 89 #[.agg #[.int .i64 q1, .int .i64 q2, .int .i64 q3, .int .i64 q4, .int .u64 q5, .int .u64 q6, .int .u64 q7], .int .i64 more, .int .u64 key] w fun e_ w' => e_ = .returned (.tuple #[.int .u64 m, .int .i64 e]) ∧ Below w.heap.size w w' := by
  have HG := Aside0.mk hG
  have HF := Aside0.mk h
  clear hG h
  go_enter Tryd.func89, Tryd.ntmps89
  go_wp2_with (go_at_call 90; (with_reducible refine (mini_Value.calls 9 _ q4 key m e r3 _ ?hg HF.out).mono ?_); (case hg => exact Glob.below HG.out (below_alloc (Below.refl _ _) _)); rintro e_ w1 ⟨rfl, hb1⟩)
  go_ret2
  exact ⟨rfl, below_step (below_alloc (Below.refl _ _) _) hb1⟩

set_option maxHeartbeats 8000000 in
set_option maxRecDepth 100000 in
theorem num3 (q1 q2 q3 q4 q5 q6 q7 more key m e : Int) (w : World) (hG : Glob w) (h : value_odd.f key (wrap64 (wrap64 (-q3) - more)) = some (m, e)) :
    Calls Tryd.prog 91 #[.agg #[.int .i64 q1, .int .i64 q2, .int .i64 q3, .int .i64 q4, .int .u64 q5, .int .u64 q6, .int .u64 q7], .int .i64 more, .int .u64 key] w fun e_ w' => e_ = .returned (.tuple #[.int .u64 m, .int .i64 e]) ∧ Below w.heap.size w w' := by
  have HG := Aside0.mk hG
  have HF := Aside0.mk h
  clear hG h
  go_enter Tryd.func91, Tryd.ntmps91
  go_wp2_with (go_at_call 92; (with_reducible refine (value_odd.calls key _ m e _ ?hg HF.out).mono ?_); (case hg => exact Glob.below HG.out (below_alloc (Below.refl _ _) _)); rintro e_ w1 ⟨rfl, hb1⟩)
  go_ret2
  exact ⟨rfl, below_step (below_alloc (Below.refl _ _) _) hb1⟩

set_option maxHeartbeats 8000000 in
set_option maxRecDepth 100000 in
theorem num4_1 (q1 q2 q3 q4 q5 q6 q7 key : Int) (w : World) :
    Calls Tryd.prog 93 #[.agg #[.int .i64 q1, .int .i64 q2, .int .i64 q3, .int .i64 q4, .int .u64 q5, .int .u64 q6, .int .u64 q7], .int .i64 1, .int .u64 key] w fun e_ w' => e_ = .returned (.tuple #[.int .u64 3, .int .i64 (wrap64 (wrap64 (wrap64 (key / 2) - q4) - 1))]) ∧ Below w.heap.size w w' := by
  go_enter Tryd.func93, Tryd.ntmps93
  go_wp2
  go_quiet (fail)
  go_wp2
  go_ret2
  exact ⟨by first | rfl | (simp; done) | trace_state, pw_below_drewN (below_alloc (Below.refl _ _) _) _⟩

end Go.Proofs.YtmcodbgbjjldnaaDoor.Pr
