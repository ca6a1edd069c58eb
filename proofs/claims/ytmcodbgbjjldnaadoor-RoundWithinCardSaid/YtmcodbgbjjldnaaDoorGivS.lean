/- Contract by hand: the law's 'shown' (chapter 08): what must be in any case. -/
import Derived.Test.YtmcodbgbjjldnaaDoorPrx14
import Derived.Test.YtmcodbgbjjldnaaDoorPrx4
set_option linter.unusedVariables false
set_option linter.unusedSimpArgs false
set_option maxRecDepth 100000
namespace Go.Proofs.YtmcodbgbjjldnaaDoor.Pr
open Go.RowKit Go.Proofs.YtmcodbgbjjldnaaDoorW.PrintWords Go.Proofs.YtmcodbgbjjldnaaDoorW.PrintLast Go.Proofs.YtmcodbgbjjldnaaDoorW.PrintMore

theorem sh1 : round_Round.f 100 5 2 false [29] 4 0 = some (126, 0) := by decide +kernel
theorem sh2 : round_Round.f 100 5 2 true [465] 0 0 = some (127, 0) := by decide +kernel
theorem sh3 : round_Round.f 100 5 1 true [465] 0 0 = some (254, 0) := by decide +kernel
theorem sh4 : round_Round.f 100 1 2 false [1] (-300) 0 = some (1, 0) := by decide +kernel
theorem sh5 : round_Round.f 100 12 2 true [1] 16 0 = some (64512, 0) := by decide +kernel
theorem sh6 : round_Round.f 100 1 3 false [] 0 0 = some (0, 1) := by decide +kernel
theorem sh7 : round_Round.f 100 14 2 true [] 0 0 = some (9223372036854775808, 0) := by decide +kernel

theorem round_at (k : Nat) (a0 a1 : Int) (s : Bool) (x t f r1 r2 : Int) (A : Option Addr) (c : Nat) (w : World) (hG : Glob w) (hr : Kd.C (Kd.int .u64) w A 1 [x]) (hc : 1 ≤ c) (h : round_Round.f k a0 a1 s [x] t f = some (r1, r2)) :
    Calls Tryd.prog 13 #[.int .i64 a0, .int .i64 a1, .agg #[.bool s, .slice A 1 c, .int .i64 t, .int .i64 f]] w fun e w' => e = .returned (.tuple #[.int .u64 r1, .int .i64 r2]) ∧ Below w.heap.size w w' := round_Round.calls k a0 a1 s A c [x] t f r1 r2 w hG hr hc h
theorem round_at0 (k : Nat) (a0 a1 : Int) (s : Bool) (t f r1 r2 : Int) (w : World) (hG : Glob w) (h : round_Round.f k a0 a1 s [] t f = some (r1, r2)) :
    Calls Tryd.prog 13 #[.int .i64 a0, .int .i64 a1, .agg #[.bool s, .slice none 0 0, .int .i64 t, .int .i64 f]] w fun e w' => e = .returned (.tuple #[.int .u64 r1, .int .i64 r2]) ∧ Below w.heap.size w w' := round_Round.calls k a0 a1 s none 0 [] t f r1 r2 w hG (Kd.C_nil _ _) (Nat.le_refl _) h
theorem number_at (a0 : Bool) (a1 a2 : Int) (w : World) :
    Calls Tryd.prog 31 #[.bool a0, .int .u64 a1, .int .i64 a2] w fun e w' => ∃ A c, e = .returned (.agg #[.bool a0, .slice A 1 c, .int .i64 a2, .int .i64 0]) ∧ Kd.C (Kd.int .u64) w' A 1 [a1] ∧ 1 ≤ c ∧ Below w.heap.size w w' := by
  refine (caliperlaw08_number.calls a0 a1 a2 _ _ _ _ w rfl).mono ?_
  rintro e w' ⟨v, rfl, hr, hb⟩
  obtain ⟨A, c, rfl⟩ := Kd.R_slice hr
  exact ⟨A, c, rfl, (Kd.R_reads' hr).2.2, (Kd.R_reads' hr).2.1, hb⟩

def caliperlaw08_shown.f : Option Bool := some true
set_option maxHeartbeats 8000000 in
theorem caliperlaw08_shown.calls (r : Bool) (w : World) (hG : Glob w) (h : caliperlaw08_shown.f = some r) :
    Calls Tryd.prog 11 #[] w fun e w' => e = .returned (.bool r) ∧ Below w.heap.size w w' := by
  obtain rfl := Option.some.inj h
  clear h
  have HG := Aside0.mk hG
  have HB := Aside0.mk (Below.refl w.heap.size w)
  clear hG
  go_enter Tryd.func11, Tryd.ntmps11
  go_wp2_with (first | (go_at_call 31; (with_reducible refine (number_at _ _ _ _).mono ?_); rintro e w1 ⟨A, c, rfl, hr, hc, hb⟩; have HR := Aside0.mk hr; have HC := Aside0.mk hc; have HB' := Aside0.mk (below_step (by repeat (with_reducible first | exact HB.out | apply below_alloc | apply pw_below_drewN | apply below_drew1)) hb); clear HB hr hc hb; have HB := HB'; clear HB') | (go_at_call 13; (with_reducible refine (round_at 100 5 2 false 29 4 0 126 0 _ _ _ ?hg HR.out HC.out sh1).mono ?_); (case hg => exact Glob.below HG.out (by repeat (with_reducible first | exact HB.out | apply below_alloc | apply pw_below_drewN | apply below_drew1))); rintro e w1 ⟨rfl, hb⟩; have HB' := Aside0.mk (below_step (by repeat (with_reducible first | exact HB.out | apply below_alloc | apply pw_below_drewN | apply below_drew1)) hb); clear HB hb; (try clear HR HC); have HB := HB'; clear HB') | (go_at_call 13; (with_reducible refine (round_at 100 5 2 true 465 0 0 127 0 _ _ _ ?hg HR.out HC.out sh2).mono ?_); (case hg => exact Glob.below HG.out (by repeat (with_reducible first | exact HB.out | apply below_alloc | apply pw_below_drewN | apply below_drew1))); rintro e w1 ⟨rfl, hb⟩; have HB' := Aside0.mk (below_step (by repeat (with_reducible first | exact HB.out | apply below_alloc | apply pw_below_drewN | apply below_drew1)) hb); clear HB hb; (try clear HR HC); have HB := HB'; clear HB') | (go_at_call 13; (with_reducible refine (round_at 100 5 1 true 465 0 0 254 0 _ _ _ ?hg HR.out HC.out sh3).mono ?_); (case hg => exact Glob.below HG.out (by repeat (with_reducible first | exact HB.out | apply below_alloc | apply pw_below_drewN | apply below_drew1))); rintro e w1 ⟨rfl, hb⟩; have HB' := Aside0.mk (below_step (by repeat (with_reducible first | exact HB.out | apply below_alloc | apply pw_below_drewN | apply below_drew1)) hb); clear HB hb; (try clear HR HC); have HB := HB'; clear HB') | (go_at_call 13; (with_reducible refine (round_at 100 1 2 false 1 (-300) 0 1 0 _ _ _ ?hg HR.out HC.out sh4).mono ?_); (case hg => exact Glob.below HG.out (by repeat (with_reducible first | exact HB.out | apply below_alloc | apply pw_below_drewN | apply below_drew1))); rintro e w1 ⟨rfl, hb⟩; have HB' := Aside0.mk (below_step (by repeat (with_reducible first | exact HB.out | apply below_alloc | apply pw_below_drewN | apply below_drew1)) hb); clear HB hb; (try clear HR HC); have HB := HB'; clear HB') | (go_at_call 13; (with_reducible refine (round_at 100 12 2 true 1 16 0 64512 0 _ _ _ ?hg HR.out HC.out sh5).mono ?_); (case hg => exact Glob.below HG.out (by repeat (with_reducible first | exact HB.out | apply below_alloc | apply pw_below_drewN | apply below_drew1))); rintro e w1 ⟨rfl, hb⟩; have HB' := Aside0.mk (below_step (by repeat (with_reducible first | exact HB.out | apply below_alloc | apply pw_below_drewN | apply below_drew1)) hb); clear HB hb; (try clear HR HC); have HB := HB'; clear HB') | (go_at_call 13; (with_reducible refine (round_at0 100 1 3 false 0 0 0 1 _ ?hg sh6).mono ?_); (case hg => exact Glob.below HG.out (by repeat (with_reducible first | exact HB.out | apply below_alloc | apply pw_below_drewN | apply below_drew1))); rintro e w1 ⟨rfl, hb⟩; have HB' := Aside0.mk (below_step (by repeat (with_reducible first | exact HB.out | apply below_alloc | apply pw_below_drewN | apply below_drew1)) hb); clear HB hb; (try clear HR HC); have HB := HB'; clear HB') | (go_at_call 13; (with_reducible refine (round_at0 100 14 2 true 0 0 9223372036854775808 0 _ ?hg sh7).mono ?_); (case hg => exact Glob.below HG.out (by repeat (with_reducible first | exact HB.out | apply below_alloc | apply pw_below_drewN | apply below_drew1))); rintro e w1 ⟨rfl, hb⟩; have HB' := Aside0.mk (below_step (by repeat (with_reducible first | exact HB.out | apply below_alloc | apply pw_below_drewN | apply below_drew1)) hb); clear HB hb; (try clear HR HC); have HB := HB'; clear HB'))
  go_ret
  exact ⟨rfl, HB.out⟩

end Go.Proofs.YtmcodbgbjjldnaaDoor.Pr
