import Derived.Test.YtmcodbgbjjldnaaDoorPrx0
import Derived.Test.YtmcodbgbjjldnaaDoorPrx3
import Derived.Test.YtmcodbgbjjldnaaDoorPrx4
import Derived.Test.YtmcodbgbjjldnaaDoorPrx14
import Derived.Test.YtmcodbgbjjldnaaDoorGivA
import Derived.Test.YtmcodbgbjjldnaaDoorGivG
import Derived.Test.YtmcodbgbjjldnaaDoorGivS
namespace Go.Proofs.YtmcodbgbjjldnaaDoor.Pr
open Go.RowKit Go.Proofs.YtmcodbgbjjldnaaDoorW.PrintWords Go.Proofs.YtmcodbgbjjldnaaDoorW.PrintLast Go.Proofs.YtmcodbgbjjldnaaDoorW.PrintMore
attribute [local go_sem] max2_int min2_int max_two min_two max_three min_three max_four min_four   -- for this text's walks alone
set_option linter.unusedVariables false
set_option linter.unusedSimpArgs false

def caliperlaw08_RoundFinite.j0 : Nat → Bool → Bool → Bool → List Int → Int → Int → Int → Int → Int → Int → Int → Int → Int → Int → Bool → Int → Int → Option (Bool)
  | 0, _, _, _, _, _, _, _, _, _, _, _, _, _, _, _, _, _ => none
  | k + 1, x5, x45, x429000, x429001, x429002, x429003, x445000, x445001, x445002, x445003, x445004, x445005, x445006, x453000, x453001, x453002, x453003 => if x45 = true then (some false) else (if x445000 = 4 then (if x5 = true then (if (x429001.length : Int) = 0 then (some ((x453000 == 4) == true)) else (some ((x453000 == 4) == x429000))) else (some false)) else (if x5 = true then (if x453000 = 2 then (if x445000 = 1 then (some ((x453000 == 1) == ((x429001.length : Int) == 0))) else (some true)) else (if x453000 = 1 then (if x445000 = 1 then (some ((x453000 == 1) == ((x429001.length : Int) == 0))) else (some true)) else (some false))) else (some false)))
def caliperlaw08_RoundFinite.f (k : Nat) (a0 : Int) (a1_0 : Bool) (l1_1 : List Int) (a1_2 : Int) (a1_3 : Int) : Option (Bool) := (caliperlaw08_shown.f).bind fun t429 => ((caliperlaw08_small.f k a1_0 l1_1 a1_2 a1_3).bind fun bt430 => ((forms_Of.f a0).bind fun bt436 => ((round_Round.f k a0 1 bt430.1 bt430.2.1 bt430.2.2.1 bt430.2.2.2).bind fun bt445 => (if bt436.2.2.2.2.2.2.2 = 0 then ((value_Decode.f a0 bt445.1).bind fun bt447 => (if bt445.2 = 0 then (caliperlaw08_RoundFinite.j0 k t429 (bt447.2.2.2.2 != 0) bt430.1 bt430.2.1 bt430.2.2.1 bt430.2.2.2 bt436.1 bt436.2.1 bt436.2.2.1 bt436.2.2.2.1 bt436.2.2.2.2.1 bt436.2.2.2.2.2.1 bt436.2.2.2.2.2.2.1 bt447.1 bt447.2.1 bt447.2.2.1 bt447.2.2.2.1) else (caliperlaw08_RoundFinite.j0 k t429 true bt430.1 bt430.2.1 bt430.2.2.1 bt430.2.2.2 bt436.1 bt436.2.1 bt436.2.2.1 bt436.2.2.2.1 bt436.2.2.2.2.1 bt436.2.2.2.2.2.1 bt436.2.2.2.2.2.2.1 bt447.1 bt447.2.1 bt447.2.2.1 bt447.2.2.2.1))) else (if t429 = true then (some (bt445.2 == 3)) else (some false))))))
set_option maxHeartbeats 8000000 in
set_option maxRecDepth 100000 in
theorem caliperlaw08_RoundFinite.calls (k : Nat) (a0 : Int) (a1_0 : Bool) (A1_1 : Option Addr) (c1_1 : Nat) (l1_1 : List Int) (a1_2 : Int) (a1_3 : Int) (r : Bool) (w : World) (hG : Glob w) (hr1_1 : Kd.C (Kd.int .u64) w A1_1 l1_1.length l1_1) (hc1_1 : l1_1.length ≤ c1_1) (h : caliperlaw08_RoundFinite.f k a0 a1_0 l1_1 a1_2 a1_3 = some r) :
    Calls Tryd.prog 8 #[.int .i64 a0, .agg #[.bool a1_0, .slice A1_1 l1_1.length c1_1, .int .i64 a1_2, .int .i64 a1_3]] w fun e w' => e = .returned (.bool r) ∧ Below w.heap.size w w' := by
  have hu25 := Tryd.underlying25
  have hu51 := Tryd.underlying51
  have hu50 := Tryd.underlying50
  have HR1_1 := Aside0.mk hr1_1
  have HC1_1 := Aside0.mk hc1_1
  clear hr1_1 hc1_1
  have HG := Aside0.mk hG
  clear hG
  have HB := Aside0.mk (Below.refl w.heap.size w)
  have H : ((caliperlaw08_shown.f).bind fun t429 => ((caliperlaw08_small.f k a1_0 l1_1 a1_2 a1_3).bind fun bt430 => ((forms_Of.f a0).bind fun bt436 => ((round_Round.f k a0 1 bt430.1 bt430.2.1 bt430.2.2.1 bt430.2.2.2).bind fun bt445 => (if bt436.2.2.2.2.2.2.2 = 0 then ((value_Decode.f a0 bt445.1).bind fun bt447 => (if bt445.2 = 0 then (caliperlaw08_RoundFinite.j0 k t429 (bt447.2.2.2.2 != 0) bt430.1 bt430.2.1 bt430.2.2.1 bt430.2.2.2 bt436.1 bt436.2.1 bt436.2.2.1 bt436.2.2.2.1 bt436.2.2.2.2.1 bt436.2.2.2.2.2.1 bt436.2.2.2.2.2.2.1 bt447.1 bt447.2.1 bt447.2.2.1 bt447.2.2.2.1) else (caliperlaw08_RoundFinite.j0 k t429 true bt430.1 bt430.2.1 bt430.2.2.1 bt430.2.2.2 bt436.1 bt436.2.1 bt436.2.2.1 bt436.2.2.2.1 bt436.2.2.2.2.1 bt436.2.2.2.2.2.1 bt436.2.2.2.2.2.2.1 bt447.1 bt447.2.1 bt447.2.2.1 bt447.2.2.2.1))) else (if t429 = true then (some (bt445.2 == 3)) else (some false))))))) = some r := h
  clear h
  replace H := Option.bind_eq_some_iff.mp H
  obtain ⟨t429, A30, H⟩ := H
  replace H : ((caliperlaw08_small.f k a1_0 l1_1 a1_2 a1_3).bind fun bt430 => ((forms_Of.f a0).bind fun bt436 => ((round_Round.f k a0 1 bt430.1 bt430.2.1 bt430.2.2.1 bt430.2.2.2).bind fun bt445 => (if bt436.2.2.2.2.2.2.2 = 0 then ((value_Decode.f a0 bt445.1).bind fun bt447 => (if bt445.2 = 0 then (caliperlaw08_RoundFinite.j0 k t429 (bt447.2.2.2.2 != 0) bt430.1 bt430.2.1 bt430.2.2.1 bt430.2.2.2 bt436.1 bt436.2.1 bt436.2.2.1 bt436.2.2.2.1 bt436.2.2.2.2.1 bt436.2.2.2.2.2.1 bt436.2.2.2.2.2.2.1 bt447.1 bt447.2.1 bt447.2.2.1 bt447.2.2.2.1) else (caliperlaw08_RoundFinite.j0 k t429 true bt430.1 bt430.2.1 bt430.2.2.1 bt430.2.2.2 bt436.1 bt436.2.1 bt436.2.2.1 bt436.2.2.2.1 bt436.2.2.2.2.1 bt436.2.2.2.2.2.1 bt436.2.2.2.2.2.2.1 bt447.1 bt447.2.1 bt447.2.2.1 bt447.2.2.2.1))) else (if t429 = true then (some (bt445.2 == 3)) else (some false)))))) = some r := H
  have A3 := Aside0.mk A30
  clear A30
  replace H := Option.bind_eq_some_iff.mp H
  obtain ⟨⟨t430, t431, t434, t435⟩, A40, H⟩ := H
  replace H : ((forms_Of.f a0).bind fun bt436 => ((round_Round.f k a0 1 t430 t431 t434 t435).bind fun bt445 => (if bt436.2.2.2.2.2.2.2 = 0 then ((value_Decode.f a0 bt445.1).bind fun bt447 => (if bt445.2 = 0 then (caliperlaw08_RoundFinite.j0 k t429 (bt447.2.2.2.2 != 0) t430 t431 t434 t435 bt436.1 bt436.2.1 bt436.2.2.1 bt436.2.2.2.1 bt436.2.2.2.2.1 bt436.2.2.2.2.2.1 bt436.2.2.2.2.2.2.1 bt447.1 bt447.2.1 bt447.2.2.1 bt447.2.2.2.1) else (caliperlaw08_RoundFinite.j0 k t429 true t430 t431 t434 t435 bt436.1 bt436.2.1 bt436.2.2.1 bt436.2.2.2.1 bt436.2.2.2.2.1 bt436.2.2.2.2.2.1 bt436.2.2.2.2.2.2.1 bt447.1 bt447.2.1 bt447.2.2.1 bt447.2.2.2.1))) else (if t429 = true then (some (bt445.2 == 3)) else (some false))))) = some r := H
  have A4 := Aside0.mk A40
  clear A40
  replace H := Option.bind_eq_some_iff.mp H
  obtain ⟨⟨t436, t437, t438, t439, t440, t441, t442, t443⟩, A50, H⟩ := H
  replace H : ((round_Round.f k a0 1 t430 t431 t434 t435).bind fun bt445 => (if t443 = 0 then ((value_Decode.f a0 bt445.1).bind fun bt447 => (if bt445.2 = 0 then (caliperlaw08_RoundFinite.j0 k t429 (bt447.2.2.2.2 != 0) t430 t431 t434 t435 t436 t437 t438 t439 t440 t441 t442 bt447.1 bt447.2.1 bt447.2.2.1 bt447.2.2.2.1) else (caliperlaw08_RoundFinite.j0 k t429 true t430 t431 t434 t435 t436 t437 t438 t439 t440 t441 t442 bt447.1 bt447.2.1 bt447.2.2.1 bt447.2.2.2.1))) else (if t429 = true then (some (bt445.2 == 3)) else (some false)))) = some r := H
  have A5 := Aside0.mk A50
  clear A50
  replace H := Option.bind_eq_some_iff.mp H
  obtain ⟨⟨t445, t446⟩, A60, H⟩ := H
  replace H : (if t443 = 0 then ((value_Decode.f a0 t445).bind fun bt447 => (if t446 = 0 then (caliperlaw08_RoundFinite.j0 k t429 (bt447.2.2.2.2 != 0) t430 t431 t434 t435 t436 t437 t438 t439 t440 t441 t442 bt447.1 bt447.2.1 bt447.2.2.1 bt447.2.2.2.1) else (caliperlaw08_RoundFinite.j0 k t429 true t430 t431 t434 t435 t436 t437 t438 t439 t440 t441 t442 bt447.1 bt447.2.1 bt447.2.2.1 bt447.2.2.2.1))) else (if t429 = true then (some (t446 == 3)) else (some false))) = some r := H
  have A6 := Aside0.mk A60
  clear A60
  by_cases c7 : t443 = 0
  · rw [if_pos c7] at H
    have c7b0 : (t443 == 0) = true := beq_iff_eq.mpr c7
    have c7b1 : (t443 != 0) = false := bne_eq_false_iff_eq.mpr c7
    clear c7
    replace H := Option.bind_eq_some_iff.mp H
    obtain ⟨⟨t447, t448, t449, t450, t451⟩, A80, H⟩ := H
    replace H : (if t446 = 0 then (caliperlaw08_RoundFinite.j0 k t429 (t451 != 0) t430 t431 t434 t435 t436 t437 t438 t439 t440 t441 t442 t447 t448 t449 t450) else (caliperlaw08_RoundFinite.j0 k t429 true t430 t431 t434 t435 t436 t437 t438 t439 t440 t441 t442 t447 t448 t449 t450)) = some r := H
    have A8 := Aside0.mk A80
    clear A80
    have HC9 := Aside0.mk H
    clear H
    go_enter Tryd.func8, Tryd.ntmps8
    go_upto_region 8 with (first | ((with_reducible refine gate_dst (N := 3) rfl ?_); refine box_event ?hg (N := 3) ?hd (cs := #[.bool a1_0, .slice A1_1 l1_1.length c1_1, .int .i64 a1_2, .int .i64 a1_3]) (t := 25) ?hr ?_; (case hd => rfl); (case hg => rfl); (case hr => first | (go_simp; done) | (go_simp; rfl)); intro gb428 hg w10 hbox hb; have n0_ := Aside0.mk (below_step (by repeat (first | (with_reducible first | exact HB.out | apply below_alloc | apply pw_below_drewN | apply below_drew1) | exact HB.out)) hb); have n1_ := Aside0.mk (hbox); have n2_ := Aside0.mk ((by rw [hg]; exact (below_size (by repeat (first | (with_reducible first | exact HB.out | apply below_alloc | apply pw_below_drewN | apply below_drew1) | exact HB.out))) : w.heap.size ≤ gb428)); have n3_ := Aside0.mk ((by rw [hg]; exact (below_size (by repeat (first | (with_reducible first | exact HB.out | apply below_alloc | apply pw_below_drewN | apply below_drew1) | exact HB.out))) : w.heap.size ≤ gb428)); clear HB; have HB := n0_; have BK428 := n1_; have GW428 := n2_; have GE428 := n3_; clear n0_ n1_ n2_ n3_; clear hb hbox hg) | ((with_reducible refine gate_callee (f := 11) rfl ?_); refine goesL_ (some 13) rfl rfl Tryd.func11 (by kernel_rfl) rfl #[] rfl (by (try simp only [List.map_toArray, List.map_cons, List.map_nil]); first | done | rfl | (simp only [List.length_drop, List.length_take]; rfl)) ?_; (with_reducible refine (caliperlaw08_shown.calls  t429 _ ?side1 A3.out).mono ?_); (case side1 => exact Glob.below HG.out (by repeat (first | (with_reducible first | exact HB.out | apply below_alloc | apply pw_below_drewN | apply below_drew1 | refine below_set ?_ GE428.out) | exact HB.out))); rintro e w11 ⟨rfl, hb⟩; refine ⟨_, rfl, ?_⟩; have n0_ := Aside0.mk (blk_below (g := gb428) (o := .cells #[.bool a1_0, .slice A1_1 l1_1.length c1_1, .int .i64 a1_2, .int .i64 a1_3] 25 (0, 0)) (by (with_reducible repeat (first | refine blk_drewN ?_ _ | refine blk_drew ?_ | refine blk_alloc ?_ _)); exact BK428.out) hb); have n1_ := Aside0.mk (below_step (by repeat (first | (with_reducible first | exact HB.out | apply below_alloc | apply pw_below_drewN | apply below_drew1 | refine below_set ?_ GE428.out) | exact HB.out)) hb); clear BK428; clear HB; have BK428 := n0_; have HB := n1_; clear n0_ n1_; (try clear hb); (try clear hb2); (try clear hk); (try clear hi); have hcz12_0 : w11.cell? ⟨gb428, 0, none⟩ = some (.bool a1_0) := (blk_cell BK428.out 0).trans rfl; have hcz12_1 : w11.cell? ⟨gb428, 1, none⟩ = some (.slice A1_1 l1_1.length c1_1) := (blk_cell BK428.out 1).trans rfl; have hcz12_2 : w11.cell? ⟨gb428, 2, none⟩ = some (.int .i64 a1_2) := (blk_cell BK428.out 2).trans rfl; have hcz12_3 : w11.cell? ⟨gb428, 3, none⟩ = some (.int .i64 a1_3) := (blk_cell BK428.out 3).trans rfl; have hfz12_0 := blk_frozen BK428.out 0; have hfz12_1 := blk_frozen BK428.out 1; have hfz12_2 := blk_frozen BK428.out 2; have hfz12_3 := blk_frozen BK428.out 3) | ((with_reducible refine gate_callee (f := 12) rfl ?_); refine goesL_ (some 15) rfl rfl Tryd.func12 (by kernel_rfl) rfl #[.agg #[.bool a1_0, .slice A1_1 l1_1.length c1_1, .int .i64 a1_2, .int .i64 a1_3]] rfl (by (try simp only [List.map_toArray, List.map_cons, List.map_nil]); first | done | rfl | (simp only [List.length_drop, List.length_take]; rfl)) ?_; (with_reducible refine (caliperlaw08_small.calls k a1_0 (fun k_ => k_ < w.heap.size) _ _ l1_1 a1_2 a1_3 t430 t431 t434 t435 _ ?side1 A4.out).mono ?_); (case side1 => exact Kd.V_mk HC1_1.out (Kd.F_below (Kd.C_F (Kd.heap_int .u64) HR1_1.out) (by repeat (first | (with_reducible first | exact HB.out | apply below_alloc | apply pw_below_drewN | apply below_drew1 | refine below_set ?_ GE428.out) | exact HB.out)))); rintro e w13 ⟨v432, rfl, ho0, hb⟩; refine ⟨_, rfl, ?_⟩; have n0_ := Aside0.mk (Kd.V_lower (Kd.V_mono (ok' := fun k_ => k_ ≠ gb428) ho0 (fun k_ hk_ => Or.elim hk_ (fun hs_ => fun e_ => Nat.not_le.2 hs_ (by rw [e_]; exact GW428.out)) (fun hn_ => (Kd.freshB (g := gb428) (o := .cells #[.bool a1_0, .slice A1_1 l1_1.length c1_1, .int .i64 a1_2, .int .i64 a1_3] 25 (0, 0)) (by (with_reducible repeat (first | refine blk_drewN ?_ _ | refine blk_drew ?_ | refine blk_alloc ?_ _)); exact BK428.out) k_ hn_)))) (below_size (by repeat (first | (with_reducible first | exact HB.out | apply below_alloc | apply pw_below_drewN | apply below_drew1 | refine below_set ?_ GE428.out) | exact HB.out)))); have n1_ := Aside0.mk (blk_below (g := gb428) (o := .cells #[.bool a1_0, .slice A1_1 l1_1.length c1_1, .int .i64 a1_2, .int .i64 a1_3] 25 (0, 0)) (by (with_reducible repeat (first | refine blk_drewN ?_ _ | refine blk_drew ?_ | refine blk_alloc ?_ _)); exact BK428.out) hb); have n2_ := Aside0.mk (below_step (by repeat (first | (with_reducible first | exact HB.out | apply below_alloc | apply pw_below_drewN | apply below_drew1 | refine below_set ?_ GE428.out) | exact HB.out)) hb); clear BK428; clear HB; have HO433 := n0_; have BK428 := n1_; have HB := n2_; clear n0_ n1_ n2_; (try clear hb); (try clear hb2); (try clear hk); (try clear hi); (try clear ho0); have hcz14_0 : w13.cell? ⟨gb428, 0, none⟩ = some (.bool a1_0) := (blk_cell BK428.out 0).trans rfl; have hcz14_1 : w13.cell? ⟨gb428, 1, none⟩ = some (.slice A1_1 l1_1.length c1_1) := (blk_cell BK428.out 1).trans rfl; have hcz14_2 : w13.cell? ⟨gb428, 2, none⟩ = some (.int .i64 a1_2) := (blk_cell BK428.out 2).trans rfl; have hcz14_3 : w13.cell? ⟨gb428, 3, none⟩ = some (.int .i64 a1_3) := (blk_cell BK428.out 3).trans rfl; have hfz14_0 := blk_frozen BK428.out 0; have hfz14_1 := blk_frozen BK428.out 1; have hfz14_2 := blk_frozen BK428.out 2; have hfz14_3 := blk_frozen BK428.out 3; obtain ⟨Ao15, co15, eo15⟩ := Kd.V_slice HO433.out; subst eo15) | ((with_reducible refine gate_callee (f := 23) rfl ?_); refine goesL_ (some 18) rfl rfl Tryd.func23 (by kernel_rfl) rfl #[.int .i64 a0] rfl (by (try simp only [List.map_toArray, List.map_cons, List.map_nil]); first | done | rfl | (simp only [List.length_drop, List.length_take]; rfl)) ?_; (with_reducible refine (forms_Of.calls a0 t436 t437 t438 t439 t440 t441 t442 t443 _ ?side1 A5.out).mono ?_); (case side1 => exact Glob.below HG.out (by repeat (first | (with_reducible first | exact HB.out | apply below_alloc | apply pw_below_drewN | apply below_drew1 | refine below_set ?_ GE428.out) | exact HB.out))); rintro e w16 ⟨rfl, hb⟩; refine ⟨_, rfl, ?_⟩; have n0_ := Aside0.mk (Kd.V_below (by (with_reducible repeat (first | apply Kd.V_alloc | apply Kd.V_drewN | apply Kd.V_drew)); exact (Kd.V_mono (Kd.V_far (p := ⟨gb428, 3, none⟩) (Kd.V_far (p := ⟨gb428, 2, none⟩) (Kd.V_far (p := ⟨gb428, 1, none⟩) (Kd.V_far (p := ⟨gb428, 0, none⟩) (Kd.V_mono HO433.out (fun k_ hk => (⟨hk, hk⟩ : _ ∧ k_ ≠ gb428))) (fun _ hk => hk.2) (.bool t430)) (fun _ hk => hk.2) (.slice Ao15 t431.length co15)) (fun _ hk => hk.2) (.int .i64 t434)) (fun _ hk => hk.2) (.int .i64 t435)) (fun _ h_ => h_.1))) hb); have n1_ := Aside0.mk (blk_below (g := gb428) (o := .cells #[.bool t430, .slice Ao15 t431.length co15, .int .i64 t434, .int .i64 t435] 25 (0, 0)) (by (with_reducible repeat (first | refine blk_drewN ?_ _ | refine blk_drew ?_ | refine blk_alloc ?_ _)); refine blk_put (cs := #[.bool t430, .slice Ao15 t431.length co15, .int .i64 t434, .int .i64 a1_3]) ?_ 3 _ rfl; (with_reducible repeat (first | refine blk_drewN ?_ _ | refine blk_drew ?_ | refine blk_alloc ?_ _)); refine blk_put (cs := #[.bool t430, .slice Ao15 t431.length co15, .int .i64 a1_2, .int .i64 a1_3]) ?_ 2 _ rfl; (with_reducible repeat (first | refine blk_drewN ?_ _ | refine blk_drew ?_ | refine blk_alloc ?_ _)); refine blk_put (cs := #[.bool t430, .slice A1_1 l1_1.length c1_1, .int .i64 a1_2, .int .i64 a1_3]) ?_ 1 _ rfl; (with_reducible repeat (first | refine blk_drewN ?_ _ | refine blk_drew ?_ | refine blk_alloc ?_ _)); refine blk_put (cs := #[.bool a1_0, .slice A1_1 l1_1.length c1_1, .int .i64 a1_2, .int .i64 a1_3]) ?_ 0 _ rfl; (with_reducible repeat (first | refine blk_drewN ?_ _ | refine blk_drew ?_ | refine blk_alloc ?_ _)); exact BK428.out) hb); have n2_ := Aside0.mk (below_step (by repeat (first | (with_reducible first | exact HB.out | apply below_alloc | apply pw_below_drewN | apply below_drew1 | refine below_set ?_ GE428.out) | exact HB.out)) hb); clear HO433; clear BK428; clear HB; have HO433 := n0_; have BK428 := n1_; have HB := n2_; clear n0_ n1_ n2_; (try clear hb); (try clear hb2); (try clear hk); (try clear hi)) | ((with_reducible refine gate_dst (N := 6) rfl ?_); refine box_event ?hg (N := 6) ?hd (cs := #[.int .i64 0, .int .i64 0, .int .i64 0, .int .i64 0, .int .u64 0, .int .u64 0, .int .u64 0]) (t := 51) ?hr ?_; (case hd => rfl); (case hg => rfl); (case hr => first | (go_simp; done) | (go_simp; rfl)); intro gb444 hg w17 hbox hb; have n0_ := Aside0.mk (Kd.V_below (Kd.V_elderB (by (with_reducible repeat (first | apply Kd.V_alloc | apply Kd.V_drewN | apply Kd.V_drew)); exact HO433.out) gb444 (Nat.le_of_eq hg.symm)) hb); have n1_ := Aside0.mk (blk_below (g := gb428) (o := .cells #[.bool t430, .slice Ao15 t431.length co15, .int .i64 t434, .int .i64 t435] 25 (0, 0)) (by (with_reducible repeat (first | refine blk_drewN ?_ _ | refine blk_drew ?_ | refine blk_alloc ?_ _)); exact BK428.out) hb); have n2_ := Aside0.mk (below_step (by repeat (first | (with_reducible first | exact HB.out | apply below_alloc | apply pw_below_drewN | apply below_drew1 | refine below_set ?_ GE428.out) | exact HB.out)) hb); have n3_ := Aside0.mk (hbox); have n4_ := Aside0.mk ((by rw [hg]; exact (below_size (by repeat (first | (with_reducible first | exact HB.out | apply below_alloc | apply pw_below_drewN | apply below_drew1 | refine below_set ?_ GE428.out) | exact HB.out))) : w.heap.size ≤ gb444)); have n5_ := Aside0.mk ((by rw [hg]; exact (below_size (by repeat (first | (with_reducible first | exact HB.out | apply below_alloc | apply pw_below_drewN | apply below_drew1 | refine below_set ?_ GE428.out) | exact HB.out))) : w.heap.size ≤ gb444)); have n6_ := Aside0.mk ((by rw [hg]; exact Nat.ne_of_lt (blk_lt (g := gb428) (o := .cells #[.bool t430, .slice Ao15 t431.length co15, .int .i64 t434, .int .i64 t435] 25 (0, 0)) (by (with_reducible repeat (first | refine blk_drewN ?_ _ | refine blk_drew ?_ | refine blk_alloc ?_ _)); exact BK428.out)) : gb428 ≠ gb444)); have n7_ := Aside0.mk ((by rw [hg]; exact Nat.ne_of_gt (blk_lt (g := gb428) (o := .cells #[.bool t430, .slice Ao15 t431.length co15, .int .i64 t434, .int .i64 t435] 25 (0, 0)) (by (with_reducible repeat (first | refine blk_drewN ?_ _ | refine blk_drew ?_ | refine blk_alloc ?_ _)); exact BK428.out)) : gb444 ≠ gb428)); clear HO433; clear BK428; clear HB; have HO433 := n0_; have BK428 := n1_; have HB := n2_; have BK444 := n3_; have GW444 := n4_; have GE444 := n5_; have NB428_444 := n6_; have NB444_428 := n7_; clear n0_ n1_ n2_ n3_ n4_ n5_ n6_ n7_; clear hb hbox hg; have hnb18 := NB444_428.out; have hnc18 := NB428_444.out; have hcz19_0 : w17.cell? ⟨gb444, 0, none⟩ = some (.int .i64 0) := (blk_cell BK444.out 0).trans rfl; have hcz19_1 : w17.cell? ⟨gb444, 1, none⟩ = some (.int .i64 0) := (blk_cell BK444.out 1).trans rfl; have hcz19_2 : w17.cell? ⟨gb444, 2, none⟩ = some (.int .i64 0) := (blk_cell BK444.out 2).trans rfl; have hcz19_3 : w17.cell? ⟨gb444, 3, none⟩ = some (.int .i64 0) := (blk_cell BK444.out 3).trans rfl; have hcz19_4 : w17.cell? ⟨gb444, 4, none⟩ = some (.int .u64 0) := (blk_cell BK444.out 4).trans rfl; have hcz19_5 : w17.cell? ⟨gb444, 5, none⟩ = some (.int .u64 0) := (blk_cell BK444.out 5).trans rfl; have hcz19_6 : w17.cell? ⟨gb444, 6, none⟩ = some (.int .u64 0) := (blk_cell BK444.out 6).trans rfl; have hfz19_0 := blk_frozen BK444.out 0; have hfz19_1 := blk_frozen BK444.out 1; have hfz19_2 := blk_frozen BK444.out 2; have hfz19_3 := blk_frozen BK444.out 3; have hfz19_4 := blk_frozen BK444.out 4; have hfz19_5 := blk_frozen BK444.out 5; have hfz19_6 := blk_frozen BK444.out 6; have hcz20_0 : w17.cell? ⟨gb428, 0, none⟩ = some (.bool t430) := (blk_cell BK428.out 0).trans rfl; have hcz20_1 : w17.cell? ⟨gb428, 1, none⟩ = some (.slice Ao15 t431.length co15) := (blk_cell BK428.out 1).trans rfl; have hcz20_2 : w17.cell? ⟨gb428, 2, none⟩ = some (.int .i64 t434) := (blk_cell BK428.out 2).trans rfl; have hcz20_3 : w17.cell? ⟨gb428, 3, none⟩ = some (.int .i64 t435) := (blk_cell BK428.out 3).trans rfl; have hfz20_0 := blk_frozen BK428.out 0; have hfz20_1 := blk_frozen BK428.out 1; have hfz20_2 := blk_frozen BK428.out 2; have hfz20_3 := blk_frozen BK428.out 3) | ((with_reducible refine gate_callee (f := 13) rfl ?_); refine goesL_ (some 24) rfl rfl Tryd.func13 (by kernel_rfl) rfl #[.int .i64 a0, .int .i64 1, .agg #[.bool t430, .slice Ao15 t431.length co15, .int .i64 t434, .int .i64 t435]] rfl (by (try simp only [List.map_toArray, List.map_cons, List.map_nil]); first | done | rfl | (simp only [List.length_drop, List.length_take]; rfl)) ?_; (with_reducible refine (round_Round.calls k a0 1 t430 _ _ t431 t434 t435 t445 t446 _ ?side3 ?side1 ?side2 A6.out).mono ?_); (case side1 => refine (Kd.V_reads' (e := 28) (base := w.heap.size) (ok := fun k_ => (k_ ≠ gb428 ∧ k_ ≠ gb444)) (n := t431.length) (c := co15) ?_).2.2; exact (by (with_reducible repeat (first | apply Kd.V_alloc | apply Kd.V_drewN | apply Kd.V_drew)); exact (Kd.V_mono (Kd.V_far (p := ⟨gb444, 6, none⟩) (Kd.V_far (p := ⟨gb444, 5, none⟩) (Kd.V_far (p := ⟨gb444, 4, none⟩) (Kd.V_far (p := ⟨gb444, 3, none⟩) (Kd.V_far (p := ⟨gb444, 2, none⟩) (Kd.V_far (p := ⟨gb444, 1, none⟩) (Kd.V_far (p := ⟨gb444, 0, none⟩) (Kd.V_mono HO433.out (fun k_ hk => (⟨hk, hk.2⟩ : _ ∧ k_ ≠ gb444))) (fun _ hk => hk.2) (.int .i64 t436)) (fun _ hk => hk.2) (.int .i64 t437)) (fun _ hk => hk.2) (.int .i64 t438)) (fun _ hk => hk.2) (.int .i64 t439)) (fun _ hk => hk.2) (.int .u64 t440)) (fun _ hk => hk.2) (.int .u64 t441)) (fun _ hk => hk.2) (.int .u64 t442)) (fun _ h_ => h_.1)))); (case side2 => exact (Kd.V_reads' HO433.out).2.1); (case side3 => exact Glob.below HG.out (by repeat (first | (with_reducible first | exact HB.out | apply below_alloc | apply pw_below_drewN | apply below_drew1 | refine below_set ?_ GE428.out | refine below_set ?_ GE444.out) | exact HB.out))); rintro e w21 ⟨rfl, hb⟩; refine ⟨_, rfl, ?_⟩; have n0_ := Aside0.mk (Kd.V_below (by (with_reducible repeat (first | apply Kd.V_alloc | apply Kd.V_drewN | apply Kd.V_drew)); exact (Kd.V_mono (Kd.V_far (p := ⟨gb444, 6, none⟩) (Kd.V_far (p := ⟨gb444, 5, none⟩) (Kd.V_far (p := ⟨gb444, 4, none⟩) (Kd.V_far (p := ⟨gb444, 3, none⟩) (Kd.V_far (p := ⟨gb444, 2, none⟩) (Kd.V_far (p := ⟨gb444, 1, none⟩) (Kd.V_far (p := ⟨gb444, 0, none⟩) (Kd.V_mono HO433.out (fun k_ hk => (⟨hk, hk.2⟩ : _ ∧ k_ ≠ gb444))) (fun _ hk => hk.2) (.int .i64 t436)) (fun _ hk => hk.2) (.int .i64 t437)) (fun _ hk => hk.2) (.int .i64 t438)) (fun _ hk => hk.2) (.int .i64 t439)) (fun _ hk => hk.2) (.int .u64 t440)) (fun _ hk => hk.2) (.int .u64 t441)) (fun _ hk => hk.2) (.int .u64 t442)) (fun _ h_ => h_.1))) hb); have n1_ := Aside0.mk (blk_below (g := gb428) (o := .cells #[.bool t430, .slice Ao15 t431.length co15, .int .i64 t434, .int .i64 t435] 25 (0, 0)) (by (with_reducible repeat (first | refine blk_drewN ?_ _ | refine blk_drew ?_ | refine blk_alloc ?_ _)); refine blk_far ?_ NB428_444.out _; (with_reducible repeat (first | refine blk_drewN ?_ _ | refine blk_drew ?_ | refine blk_alloc ?_ _)); refine blk_far ?_ NB428_444.out _; (with_reducible repeat (first | refine blk_drewN ?_ _ | refine blk_drew ?_ | refine blk_alloc ?_ _)); refine blk_far ?_ NB428_444.out _; (with_reducible repeat (first | refine blk_drewN ?_ _ | refine blk_drew ?_ | refine blk_alloc ?_ _)); refine blk_far ?_ NB428_444.out _; (with_reducible repeat (first | refine blk_drewN ?_ _ | refine blk_drew ?_ | refine blk_alloc ?_ _)); refine blk_far ?_ NB428_444.out _; (with_reducible repeat (first | refine blk_drewN ?_ _ | refine blk_drew ?_ | refine blk_alloc ?_ _)); refine blk_far ?_ NB428_444.out _; (with_reducible repeat (first | refine blk_drewN ?_ _ | refine blk_drew ?_ | refine blk_alloc ?_ _)); refine blk_far ?_ NB428_444.out _; (with_reducible repeat (first | refine blk_drewN ?_ _ | refine blk_drew ?_ | refine blk_alloc ?_ _)); exact BK428.out) hb); have n2_ := Aside0.mk (blk_below (g := gb444) (o := .cells #[.int .i64 t436, .int .i64 t437, .int .i64 t438, .int .i64 t439, .int .u64 t440, .int .u64 t441, .int .u64 t442] 51 (0, 0)) (by (with_reducible repeat (first | refine blk_drewN ?_ _ | refine blk_drew ?_ | refine blk_alloc ?_ _)); refine blk_put (cs := #[.int .i64 t436, .int .i64 t437, .int .i64 t438, .int .i64 t439, .int .u64 t440, .int .u64 t441, .int .u64 0]) ?_ 6 _ rfl; (with_reducible repeat (first | refine blk_drewN ?_ _ | refine blk_drew ?_ | refine blk_alloc ?_ _)); refine blk_put (cs := #[.int .i64 t436, .int .i64 t437, .int .i64 t438, .int .i64 t439, .int .u64 t440, .int .u64 0, .int .u64 0]) ?_ 5 _ rfl; (with_reducible repeat (first | refine blk_drewN ?_ _ | refine blk_drew ?_ | refine blk_alloc ?_ _)); refine blk_put (cs := #[.int .i64 t436, .int .i64 t437, .int .i64 t438, .int .i64 t439, .int .u64 0, .int .u64 0, .int .u64 0]) ?_ 4 _ rfl; (with_reducible repeat (first | refine blk_drewN ?_ _ | refine blk_drew ?_ | refine blk_alloc ?_ _)); refine blk_put (cs := #[.int .i64 t436, .int .i64 t437, .int .i64 t438, .int .i64 0, .int .u64 0, .int .u64 0, .int .u64 0]) ?_ 3 _ rfl; (with_reducible repeat (first | refine blk_drewN ?_ _ | refine blk_drew ?_ | refine blk_alloc ?_ _)); refine blk_put (cs := #[.int .i64 t436, .int .i64 t437, .int .i64 0, .int .i64 0, .int .u64 0, .int .u64 0, .int .u64 0]) ?_ 2 _ rfl; (with_reducible repeat (first | refine blk_drewN ?_ _ | refine blk_drew ?_ | refine blk_alloc ?_ _)); refine blk_put (cs := #[.int .i64 t436, .int .i64 0, .int .i64 0, .int .i64 0, .int .u64 0, .int .u64 0, .int .u64 0]) ?_ 1 _ rfl; (with_reducible repeat (first | refine blk_drewN ?_ _ | refine blk_drew ?_ | refine blk_alloc ?_ _)); refine blk_put (cs := #[.int .i64 0, .int .i64 0, .int .i64 0, .int .i64 0, .int .u64 0, .int .u64 0, .int .u64 0]) ?_ 0 _ rfl; (with_reducible repeat (first | refine blk_drewN ?_ _ | refine blk_drew ?_ | refine blk_alloc ?_ _)); exact BK444.out) hb); have n3_ := Aside0.mk (below_step (by repeat (first | (with_reducible first | exact HB.out | apply below_alloc | apply pw_below_drewN | apply below_drew1 | refine below_set ?_ GE428.out | refine below_set ?_ GE444.out) | exact HB.out)) hb); clear HO433; clear BK428; clear BK444; clear HB; have HO433 := n0_; have BK428 := n1_; have BK444 := n2_; have HB := n3_; clear n0_ n1_ n2_ n3_; (try clear hb); (try clear hb2); (try clear hk); (try clear hi)) | ((with_reducible refine gate_callee (f := 26) rfl ?_); refine goesL_ (some 37) rfl rfl Tryd.func26 (by kernel_rfl) rfl #[.int .i64 a0, .int .u64 t445] rfl (by (try simp only [List.map_toArray, List.map_cons, List.map_nil]); first | done | rfl | (simp only [List.length_drop, List.length_take]; rfl)) ?_; (with_reducible refine (value_Decode.calls a0 t445 t447 t448 t449 t450 t451 _ ?side1 A8.out).mono ?_); (case side1 => exact Glob.below HG.out (by repeat (first | (with_reducible first | exact HB.out | apply below_alloc | apply pw_below_drewN | apply below_drew1 | refine below_set ?_ GE428.out | refine below_set ?_ GE444.out) | exact HB.out))); rintro e w22 ⟨rfl, hb⟩; refine ⟨_, rfl, ?_⟩; have n0_ := Aside0.mk (Kd.V_below (by (with_reducible repeat (first | apply Kd.V_alloc | apply Kd.V_drewN | apply Kd.V_drew)); exact HO433.out) hb); have n1_ := Aside0.mk (blk_below (g := gb428) (o := .cells #[.bool t430, .slice Ao15 t431.length co15, .int .i64 t434, .int .i64 t435] 25 (0, 0)) (by (with_reducible repeat (first | refine blk_drewN ?_ _ | refine blk_drew ?_ | refine blk_alloc ?_ _)); exact BK428.out) hb); have n2_ := Aside0.mk (blk_below (g := gb444) (o := .cells #[.int .i64 t436, .int .i64 t437, .int .i64 t438, .int .i64 t439, .int .u64 t440, .int .u64 t441, .int .u64 t442] 51 (0, 0)) (by (with_reducible repeat (first | refine blk_drewN ?_ _ | refine blk_drew ?_ | refine blk_alloc ?_ _)); exact BK444.out) hb); have n3_ := Aside0.mk (below_step (by repeat (first | (with_reducible first | exact HB.out | apply below_alloc | apply pw_below_drewN | apply below_drew1 | refine below_set ?_ GE428.out | refine below_set ?_ GE444.out) | exact HB.out)) hb); clear HO433; clear BK428; clear BK444; clear HB; have HO433 := n0_; have BK428 := n1_; have BK444 := n2_; have HB := n3_; clear n0_ n1_ n2_ n3_; (try clear hb); (try clear hb2); (try clear hk); (try clear hi)) | ((with_reducible refine gate_dst (N := 10) rfl ?_); refine box_event ?hg (N := 10) ?hd (cs := #[.int .i64 0, .bool false, .int .u64 0, .int .i64 0]) (t := 50) ?hr ?_; (case hd => rfl); (case hg => rfl); (case hr => first | (go_simp; done) | (go_simp; rfl)); intro gb452 hg w23 hbox hb; have n0_ := Aside0.mk (Kd.V_below (Kd.V_elderB (by (with_reducible repeat (first | apply Kd.V_alloc | apply Kd.V_drewN | apply Kd.V_drew)); exact HO433.out) gb452 (Nat.le_of_eq hg.symm)) hb); have n1_ := Aside0.mk (blk_below (g := gb428) (o := .cells #[.bool t430, .slice Ao15 t431.length co15, .int .i64 t434, .int .i64 t435] 25 (0, 0)) (by (with_reducible repeat (first | refine blk_drewN ?_ _ | refine blk_drew ?_ | refine blk_alloc ?_ _)); exact BK428.out) hb); have n2_ := Aside0.mk (blk_below (g := gb444) (o := .cells #[.int .i64 t436, .int .i64 t437, .int .i64 t438, .int .i64 t439, .int .u64 t440, .int .u64 t441, .int .u64 t442] 51 (0, 0)) (by (with_reducible repeat (first | refine blk_drewN ?_ _ | refine blk_drew ?_ | refine blk_alloc ?_ _)); exact BK444.out) hb); have n3_ := Aside0.mk (below_step (by repeat (first | (with_reducible first | exact HB.out | apply below_alloc | apply pw_below_drewN | apply below_drew1 | refine below_set ?_ GE428.out | refine below_set ?_ GE444.out) | exact HB.out)) hb); have n4_ := Aside0.mk (hbox); have n5_ := Aside0.mk ((by rw [hg]; exact (below_size (by repeat (first | (with_reducible first | exact HB.out | apply below_alloc | apply pw_below_drewN | apply below_drew1 | refine below_set ?_ GE428.out | refine below_set ?_ GE444.out) | exact HB.out))) : w.heap.size ≤ gb452)); have n6_ := Aside0.mk ((by rw [hg]; exact (below_size (by repeat (first | (with_reducible first | exact HB.out | apply below_alloc | apply pw_below_drewN | apply below_drew1 | refine below_set ?_ GE428.out | refine below_set ?_ GE444.out) | exact HB.out))) : w.heap.size ≤ gb452)); have n7_ := Aside0.mk ((by rw [hg]; exact Nat.ne_of_lt (blk_lt (g := gb428) (o := .cells #[.bool t430, .slice Ao15 t431.length co15, .int .i64 t434, .int .i64 t435] 25 (0, 0)) (by (with_reducible repeat (first | refine blk_drewN ?_ _ | refine blk_drew ?_ | refine blk_alloc ?_ _)); exact BK428.out)) : gb428 ≠ gb452)); have n8_ := Aside0.mk ((by rw [hg]; exact Nat.ne_of_gt (blk_lt (g := gb428) (o := .cells #[.bool t430, .slice Ao15 t431.length co15, .int .i64 t434, .int .i64 t435] 25 (0, 0)) (by (with_reducible repeat (first | refine blk_drewN ?_ _ | refine blk_drew ?_ | refine blk_alloc ?_ _)); exact BK428.out)) : gb452 ≠ gb428)); have n9_ := Aside0.mk ((by rw [hg]; exact Nat.ne_of_lt (blk_lt (g := gb444) (o := .cells #[.int .i64 t436, .int .i64 t437, .int .i64 t438, .int .i64 t439, .int .u64 t440, .int .u64 t441, .int .u64 t442] 51 (0, 0)) (by (with_reducible repeat (first | refine blk_drewN ?_ _ | refine blk_drew ?_ | refine blk_alloc ?_ _)); exact BK444.out)) : gb444 ≠ gb452)); have n10_ := Aside0.mk ((by rw [hg]; exact Nat.ne_of_gt (blk_lt (g := gb444) (o := .cells #[.int .i64 t436, .int .i64 t437, .int .i64 t438, .int .i64 t439, .int .u64 t440, .int .u64 t441, .int .u64 t442] 51 (0, 0)) (by (with_reducible repeat (first | refine blk_drewN ?_ _ | refine blk_drew ?_ | refine blk_alloc ?_ _)); exact BK444.out)) : gb452 ≠ gb444)); clear HO433; clear BK428; clear BK444; clear HB; have HO433 := n0_; have BK428 := n1_; have BK444 := n2_; have HB := n3_; have BK452 := n4_; have GW452 := n5_; have GE452 := n6_; have NB428_452 := n7_; have NB452_428 := n8_; have NB444_452 := n9_; have NB452_444 := n10_; clear n0_ n1_ n2_ n3_ n4_ n5_ n6_ n7_ n8_ n9_ n10_; clear hb hbox hg; have hnb24 := NB452_428.out; have hnc24 := NB428_452.out; have hnb25 := NB452_444.out; have hnc25 := NB444_452.out; have hcz26_0 : w23.cell? ⟨gb452, 0, none⟩ = some (.int .i64 0) := (blk_cell BK452.out 0).trans rfl; have hcz26_1 : w23.cell? ⟨gb452, 1, none⟩ = some (.bool false) := (blk_cell BK452.out 1).trans rfl; have hcz26_2 : w23.cell? ⟨gb452, 2, none⟩ = some (.int .u64 0) := (blk_cell BK452.out 2).trans rfl; have hcz26_3 : w23.cell? ⟨gb452, 3, none⟩ = some (.int .i64 0) := (blk_cell BK452.out 3).trans rfl; have hfz26_0 := blk_frozen BK452.out 0; have hfz26_1 := blk_frozen BK452.out 1; have hfz26_2 := blk_frozen BK452.out 2; have hfz26_3 := blk_frozen BK452.out 3))
    (try simp only [Act.put, List.setIfInBounds_toArray, List.set_cons_zero, List.set_cons_succ])
    go_cut [45] (fun v45 wc => ∃ (kq : Nat) (x45_8 : Bool), v45 = .bool x45_8 ∧ Aside0 (caliperlaw08_RoundFinite.j0 kq t429 x45_8 t430 t431 t434 t435 t436 t437 t438 t439 t440 t441 t442 t447 t448 t449 t450 = some r) ∧ Aside0 (kq ≤ k) ∧ Aside0 (Kd.V (Kd.int .u64) 28 wc w.heap.size (fun k_ => k_ ≠ gb428 ∧ k_ ≠ gb444 ∧ k_ ≠ gb452) (.slice Ao15 t431.length co15) t431) ∧ Aside0 (wc.heap[gb428]? = some (.cells #[.bool t430, (.slice Ao15 t431.length co15), .int .i64 t434, .int .i64 t435] 25 (0, 0))) ∧ Aside0 (wc.heap[gb444]? = some (.cells #[.int .i64 t436, .int .i64 t437, .int .i64 t438, .int .i64 t439, .int .u64 t440, .int .u64 t441, .int .u64 t442] 51 (0, 0))) ∧ Aside0 (wc.heap[gb452]? = some (.cells #[.int .i64 t447, .bool t448, .int .u64 t449, .int .i64 t450] 50 (0, 0))) ∧ Aside0 (Below w.heap.size w wc))
    case first =>
      have H := HC9.out
      clear HC9
      by_cases c27 : t446 = 0
      · rw [if_pos c27] at H
        have c27b0 : (t446 == 0) = true := beq_iff_eq.mpr c27
        have c27b1 : (t446 != 0) = false := bne_eq_false_iff_eq.mpr c27
        clear c27
        (first | rw [c27b0] | (simp only [i64_w, i32_w]; rw [c27b0]) | skip)
        have H' := Aside0.mk H
        clear H
        go_wp2
        go_meet
        case rel => exact ⟨_, ((t451 != 0)), (by first | rfl | (simp; done) | (simp [*]; done)), H', ⟨by first | omega | exact Nat.le_refl _⟩, ⟨by (with_reducible repeat (first | apply Kd.V_alloc | apply Kd.V_drewN | apply Kd.V_drew)); exact Kd.V_mono (Kd.V_far (p := ⟨gb452, 3, none⟩) (Kd.V_far (p := ⟨gb452, 2, none⟩) (Kd.V_far (p := ⟨gb452, 1, none⟩) (Kd.V_far (p := ⟨gb452, 0, none⟩) (Kd.V_mono HO433.out (fun k_ hk => (⟨hk, hk.2⟩ : _ ∧ k_ ≠ gb452))) (fun _ hk => hk.2) (.int .i64 t447)) (fun _ hk => hk.2) (.bool t448)) (fun _ hk => hk.2) (.int .u64 t449)) (fun _ hk => hk.2) (.int .i64 t450)) (fun _ hk => ⟨hk.1.1.1, ⟨hk.1.1.2, hk.1.2⟩⟩)⟩, ⟨by (with_reducible repeat (first | refine blk_drewN ?_ _ | refine blk_drew ?_ | refine blk_alloc ?_ _)); refine blk_far ?_ NB428_452.out _; (with_reducible repeat (first | refine blk_drewN ?_ _ | refine blk_drew ?_ | refine blk_alloc ?_ _)); refine blk_far ?_ NB428_452.out _; (with_reducible repeat (first | refine blk_drewN ?_ _ | refine blk_drew ?_ | refine blk_alloc ?_ _)); refine blk_far ?_ NB428_452.out _; (with_reducible repeat (first | refine blk_drewN ?_ _ | refine blk_drew ?_ | refine blk_alloc ?_ _)); refine blk_far ?_ NB428_452.out _; (with_reducible repeat (first | refine blk_drewN ?_ _ | refine blk_drew ?_ | refine blk_alloc ?_ _)); exact BK428.out⟩, ⟨by (with_reducible repeat (first | refine blk_drewN ?_ _ | refine blk_drew ?_ | refine blk_alloc ?_ _)); refine blk_far ?_ NB444_452.out _; (with_reducible repeat (first | refine blk_drewN ?_ _ | refine blk_drew ?_ | refine blk_alloc ?_ _)); refine blk_far ?_ NB444_452.out _; (with_reducible repeat (first | refine blk_drewN ?_ _ | refine blk_drew ?_ | refine blk_alloc ?_ _)); refine blk_far ?_ NB444_452.out _; (with_reducible repeat (first | refine blk_drewN ?_ _ | refine blk_drew ?_ | refine blk_alloc ?_ _)); refine blk_far ?_ NB444_452.out _; (with_reducible repeat (first | refine blk_drewN ?_ _ | refine blk_drew ?_ | refine blk_alloc ?_ _)); exact BK444.out⟩, ⟨by (with_reducible repeat (first | refine blk_drewN ?_ _ | refine blk_drew ?_ | refine blk_alloc ?_ _)); refine blk_put (cs := #[.int .i64 t447, .bool t448, .int .u64 t449, .int .i64 0]) ?_ 3 _ rfl; (with_reducible repeat (first | refine blk_drewN ?_ _ | refine blk_drew ?_ | refine blk_alloc ?_ _)); refine blk_put (cs := #[.int .i64 t447, .bool t448, .int .u64 0, .int .i64 0]) ?_ 2 _ rfl; (with_reducible repeat (first | refine blk_drewN ?_ _ | refine blk_drew ?_ | refine blk_alloc ?_ _)); refine blk_put (cs := #[.int .i64 t447, .bool false, .int .u64 0, .int .i64 0]) ?_ 1 _ rfl; (with_reducible repeat (first | refine blk_drewN ?_ _ | refine blk_drew ?_ | refine blk_alloc ?_ _)); refine blk_put (cs := #[.int .i64 0, .bool false, .int .u64 0, .int .i64 0]) ?_ 0 _ rfl; (with_reducible repeat (first | refine blk_drewN ?_ _ | refine blk_drew ?_ | refine blk_alloc ?_ _)); exact BK452.out⟩, ⟨by repeat (first | (with_reducible first | exact HB.out | apply below_alloc | apply pw_below_drewN | apply below_drew1 | refine below_set ?_ GE428.out | refine below_set ?_ GE444.out | refine below_set ?_ GE452.out) | exact HB.out)⟩⟩
      · rw [if_neg c27] at H
        have c27b0 : (t446 == 0) = false := beq_eq_false_iff_ne.mpr c27
        have c27b1 : (t446 != 0) = true := bne_iff_ne.mpr c27
        (first | rw [c27b0] | (simp only [i64_w, i32_w]; rw [c27b0]) | skip)
        have H' := Aside0.mk H
        clear H
        go_wp2
        go_meet
        case rel => exact ⟨_, (true), (by first | rfl | (simp; done) | (simp [*]; done)), H', ⟨by first | omega | exact Nat.le_refl _⟩, ⟨by (with_reducible repeat (first | apply Kd.V_alloc | apply Kd.V_drewN | apply Kd.V_drew)); exact Kd.V_mono (Kd.V_far (p := ⟨gb452, 3, none⟩) (Kd.V_far (p := ⟨gb452, 2, none⟩) (Kd.V_far (p := ⟨gb452, 1, none⟩) (Kd.V_far (p := ⟨gb452, 0, none⟩) (Kd.V_mono HO433.out (fun k_ hk => (⟨hk, hk.2⟩ : _ ∧ k_ ≠ gb452))) (fun _ hk => hk.2) (.int .i64 t447)) (fun _ hk => hk.2) (.bool t448)) (fun _ hk => hk.2) (.int .u64 t449)) (fun _ hk => hk.2) (.int .i64 t450)) (fun _ hk => ⟨hk.1.1.1, ⟨hk.1.1.2, hk.1.2⟩⟩)⟩, ⟨by (with_reducible repeat (first | refine blk_drewN ?_ _ | refine blk_drew ?_ | refine blk_alloc ?_ _)); refine blk_far ?_ NB428_452.out _; (with_reducible repeat (first | refine blk_drewN ?_ _ | refine blk_drew ?_ | refine blk_alloc ?_ _)); refine blk_far ?_ NB428_452.out _; (with_reducible repeat (first | refine blk_drewN ?_ _ | refine blk_drew ?_ | refine blk_alloc ?_ _)); refine blk_far ?_ NB428_452.out _; (with_reducible repeat (first | refine blk_drewN ?_ _ | refine blk_drew ?_ | refine blk_alloc ?_ _)); refine blk_far ?_ NB428_452.out _; (with_reducible repeat (first | refine blk_drewN ?_ _ | refine blk_drew ?_ | refine blk_alloc ?_ _)); exact BK428.out⟩, ⟨by (with_reducible repeat (first | refine blk_drewN ?_ _ | refine blk_drew ?_ | refine blk_alloc ?_ _)); refine blk_far ?_ NB444_452.out _; (with_reducible repeat (first | refine blk_drewN ?_ _ | refine blk_drew ?_ | refine blk_alloc ?_ _)); refine blk_far ?_ NB444_452.out _; (with_reducible repeat (first | refine blk_drewN ?_ _ | refine blk_drew ?_ | refine blk_alloc ?_ _)); refine blk_far ?_ NB444_452.out _; (with_reducible repeat (first | refine blk_drewN ?_ _ | refine blk_drew ?_ | refine blk_alloc ?_ _)); refine blk_far ?_ NB444_452.out _; (with_reducible repeat (first | refine blk_drewN ?_ _ | refine blk_drew ?_ | refine blk_alloc ?_ _)); exact BK444.out⟩, ⟨by (with_reducible repeat (first | refine blk_drewN ?_ _ | refine blk_drew ?_ | refine blk_alloc ?_ _)); refine blk_put (cs := #[.int .i64 t447, .bool t448, .int .u64 t449, .int .i64 0]) ?_ 3 _ rfl; (with_reducible repeat (first | refine blk_drewN ?_ _ | refine blk_drew ?_ | refine blk_alloc ?_ _)); refine blk_put (cs := #[.int .i64 t447, .bool t448, .int .u64 0, .int .i64 0]) ?_ 2 _ rfl; (with_reducible repeat (first | refine blk_drewN ?_ _ | refine blk_drew ?_ | refine blk_alloc ?_ _)); refine blk_put (cs := #[.int .i64 t447, .bool false, .int .u64 0, .int .i64 0]) ?_ 1 _ rfl; (with_reducible repeat (first | refine blk_drewN ?_ _ | refine blk_drew ?_ | refine blk_alloc ?_ _)); refine blk_put (cs := #[.int .i64 0, .bool false, .int .u64 0, .int .i64 0]) ?_ 0 _ rfl; (with_reducible repeat (first | refine blk_drewN ?_ _ | refine blk_drew ?_ | refine blk_alloc ?_ _)); exact BK452.out⟩, ⟨by repeat (first | (with_reducible first | exact HB.out | apply below_alloc | apply pw_below_drewN | apply below_drew1 | refine below_set ?_ GE428.out | refine below_set ?_ GE444.out | refine below_set ?_ GE452.out) | exact HB.out)⟩⟩
    case rest =>
      clear HC9
      try clear c1
      try clear c2
      try clear p2
      try clear c7
      try clear c7b0
      try clear c7b1
      try clear c8
      try clear c11
      try clear c12
      try clear c13
      try clear c18
      try clear c23
      try clear c24
      try clear c25
      try clear c26
      try clear c27
      try clear c27b0
      try clear c27b1
      try clear hcz12_0
      try clear hcz12_1
      try clear hcz12_2
      try clear hcz12_3
      try clear hcz14_0
      try clear hcz14_1
      try clear hcz14_2
      try clear hcz14_3
      try clear hcz19_0
      try clear hcz19_1
      try clear hcz19_2
      try clear hcz19_3
      try clear hcz19_4
      try clear hcz19_5
      try clear hcz19_6
      try clear hcz20_0
      try clear hcz20_1
      try clear hcz20_2
      try clear hcz20_3
      try clear hcz26_0
      try clear hcz26_1
      try clear hcz26_2
      try clear hcz26_3
      try clear hfz12_0
      try clear hfz12_1
      try clear hfz12_2
      try clear hfz12_3
      try clear hfz14_0
      try clear hfz14_1
      try clear hfz14_2
      try clear hfz14_3
      try clear hfz19_0
      try clear hfz19_1
      try clear hfz19_2
      try clear hfz19_3
      try clear hfz19_4
      try clear hfz19_5
      try clear hfz19_6
      try clear hfz20_0
      try clear hfz20_1
      try clear hfz20_2
      try clear hfz20_3
      try clear hfz26_0
      try clear hfz26_1
      try clear hfz26_2
      try clear hfz26_3
      obtain ⟨kq, x45_8, rfl, HA, HJ8, HO_429001, BK428, BK444, BK452, HB⟩ := hcut
      cases kq with
      | zero => exact absurd HA.out (by simp [caliperlaw08_RoundFinite.j0])
      | succ kj8 =>
        have H := HA.out
        clear HA
        simp only [caliperlaw08_RoundFinite.j0] at H
        by_cases c28 : x45_8 = true
        · subst c28
          have H1 : (some false) = some r := by rw [if_pos rfl] at H; exact H
          clear H
          have H := H1
          clear H1
          obtain rfl := Option.some.inj H
          go_wp2
          go_ret
          exact ⟨by first | rfl | (simp [errW_none, errW_some] <;> rfl) | (simp [*, errW_none, errW_some] <;> rfl), by repeat (first | (with_reducible first | exact HB.out | apply below_alloc | apply pw_below_drewN | apply below_drew1 | refine below_set ?_ GE428.out | refine below_set ?_ GE444.out | refine below_set ?_ GE452.out) | exact HB.out)⟩
        · replace c28 := Bool.eq_false_iff.mpr c28
          subst c28
          have H1 : (if t436 = 4 then (if t429 = true then (if (t431.length : Int) = 0 then (some ((t447 == 4) == true)) else (some ((t447 == 4) == t430))) else (some false)) else (if t429 = true then (if t447 = 2 then (if t436 = 1 then (some ((t447 == 1) == ((t431.length : Int) == 0))) else (some true)) else (if t447 = 1 then (if t436 = 1 then (some ((t447 == 1) == ((t431.length : Int) == 0))) else (some true)) else (some false))) else (some false))) = some r := by rw [if_neg (show ¬ (false = true) by decide)] at H; exact H
          clear H
          have H := H1
          clear H1
          by_cases c29 : t436 = 4
          · rw [if_pos c29] at H
            have c29b0 : (t436 == 4) = true := beq_iff_eq.mpr c29
            have c29b1 : (t436 != 4) = false := bne_eq_false_iff_eq.mpr c29
            clear c29
            by_cases c30 : t429 = true
            · subst c30
              have H1 : (if (t431.length : Int) = 0 then (some ((t447 == 4) == true)) else (some ((t447 == 4) == t430))) = some r := by rw [if_pos rfl] at H; exact H
              clear H
              have H := H1
              clear H1
              by_cases c31 : (t431.length : Int) = 0
              · rw [if_pos c31] at H
                have c31b0 : ((t431.length : Int) == 0) = true := beq_iff_eq.mpr c31
                have c31b1 : ((t431.length : Int) != 0) = false := bne_eq_false_iff_eq.mpr c31
                clear c31
                obtain rfl := Option.some.inj H
                have hnb32 := NB428_444.out
                have hnc32 := NB444_428.out
                have hnb33 := NB428_452.out
                have hnc33 := NB452_428.out
                have hcz34_0 : wc.cell? ⟨gb428, 0, none⟩ = some (.bool t430) := (blk_cell BK428.out 0).trans rfl
                have hcz34_1 : wc.cell? ⟨gb428, 1, none⟩ = some (.slice Ao15 t431.length co15) := (blk_cell BK428.out 1).trans rfl
                have hcz34_2 : wc.cell? ⟨gb428, 2, none⟩ = some (.int .i64 t434) := (blk_cell BK428.out 2).trans rfl
                have hcz34_3 : wc.cell? ⟨gb428, 3, none⟩ = some (.int .i64 t435) := (blk_cell BK428.out 3).trans rfl
                have hfz34_0 := blk_frozen BK428.out 0
                have hfz34_1 := blk_frozen BK428.out 1
                have hfz34_2 := blk_frozen BK428.out 2
                have hfz34_3 := blk_frozen BK428.out 3
                have hnb35 := NB444_452.out
                have hnc35 := NB452_444.out
                have hcz36_0 : wc.cell? ⟨gb444, 0, none⟩ = some (.int .i64 t436) := (blk_cell BK444.out 0).trans rfl
                have hcz36_1 : wc.cell? ⟨gb444, 1, none⟩ = some (.int .i64 t437) := (blk_cell BK444.out 1).trans rfl
                have hcz36_2 : wc.cell? ⟨gb444, 2, none⟩ = some (.int .i64 t438) := (blk_cell BK444.out 2).trans rfl
                have hcz36_3 : wc.cell? ⟨gb444, 3, none⟩ = some (.int .i64 t439) := (blk_cell BK444.out 3).trans rfl
                have hcz36_4 : wc.cell? ⟨gb444, 4, none⟩ = some (.int .u64 t440) := (blk_cell BK444.out 4).trans rfl
                have hcz36_5 : wc.cell? ⟨gb444, 5, none⟩ = some (.int .u64 t441) := (blk_cell BK444.out 5).trans rfl
                have hcz36_6 : wc.cell? ⟨gb444, 6, none⟩ = some (.int .u64 t442) := (blk_cell BK444.out 6).trans rfl
                have hfz36_0 := blk_frozen BK444.out 0
                have hfz36_1 := blk_frozen BK444.out 1
                have hfz36_2 := blk_frozen BK444.out 2
                have hfz36_3 := blk_frozen BK444.out 3
                have hfz36_4 := blk_frozen BK444.out 4
                have hfz36_5 := blk_frozen BK444.out 5
                have hfz36_6 := blk_frozen BK444.out 6
                have hcz37_0 : wc.cell? ⟨gb452, 0, none⟩ = some (.int .i64 t447) := (blk_cell BK452.out 0).trans rfl
                have hcz37_1 : wc.cell? ⟨gb452, 1, none⟩ = some (.bool t448) := (blk_cell BK452.out 1).trans rfl
                have hcz37_2 : wc.cell? ⟨gb452, 2, none⟩ = some (.int .u64 t449) := (blk_cell BK452.out 2).trans rfl
                have hcz37_3 : wc.cell? ⟨gb452, 3, none⟩ = some (.int .i64 t450) := (blk_cell BK452.out 3).trans rfl
                have hfz37_0 := blk_frozen BK452.out 0
                have hfz37_1 := blk_frozen BK452.out 1
                have hfz37_2 := blk_frozen BK452.out 2
                have hfz37_3 := blk_frozen BK452.out 3
                go_wp2
                go_ret
                exact ⟨by first | rfl | (simp [errW_none, errW_some] <;> rfl) | (simp [*, errW_none, errW_some] <;> rfl), by repeat (first | (with_reducible first | exact HB.out | apply below_alloc | apply pw_below_drewN | apply below_drew1 | refine below_set ?_ GE428.out | refine below_set ?_ GE444.out | refine below_set ?_ GE452.out) | exact HB.out)⟩
              · rw [if_neg c31] at H
                have c31b0 : ((t431.length : Int) == 0) = false := beq_eq_false_iff_ne.mpr c31
                have c31b1 : ((t431.length : Int) != 0) = true := bne_iff_ne.mpr c31
                have c31b2 : ¬ (t431 = []) := fun h_ => c31 (by rw [h_]; rfl)
                obtain rfl := Option.some.inj H
                have hnb38 := NB428_444.out
                have hnc38 := NB444_428.out
                have hnb39 := NB428_452.out
                have hnc39 := NB452_428.out
                have hcz40_0 : wc.cell? ⟨gb428, 0, none⟩ = some (.bool t430) := (blk_cell BK428.out 0).trans rfl
                have hcz40_1 : wc.cell? ⟨gb428, 1, none⟩ = some (.slice Ao15 t431.length co15) := (blk_cell BK428.out 1).trans rfl
                have hcz40_2 : wc.cell? ⟨gb428, 2, none⟩ = some (.int .i64 t434) := (blk_cell BK428.out 2).trans rfl
                have hcz40_3 : wc.cell? ⟨gb428, 3, none⟩ = some (.int .i64 t435) := (blk_cell BK428.out 3).trans rfl
                have hfz40_0 := blk_frozen BK428.out 0
                have hfz40_1 := blk_frozen BK428.out 1
                have hfz40_2 := blk_frozen BK428.out 2
                have hfz40_3 := blk_frozen BK428.out 3
                have hnb41 := NB444_452.out
                have hnc41 := NB452_444.out
                have hcz42_0 : wc.cell? ⟨gb444, 0, none⟩ = some (.int .i64 t436) := (blk_cell BK444.out 0).trans rfl
                have hcz42_1 : wc.cell? ⟨gb444, 1, none⟩ = some (.int .i64 t437) := (blk_cell BK444.out 1).trans rfl
                have hcz42_2 : wc.cell? ⟨gb444, 2, none⟩ = some (.int .i64 t438) := (blk_cell BK444.out 2).trans rfl
                have hcz42_3 : wc.cell? ⟨gb444, 3, none⟩ = some (.int .i64 t439) := (blk_cell BK444.out 3).trans rfl
                have hcz42_4 : wc.cell? ⟨gb444, 4, none⟩ = some (.int .u64 t440) := (blk_cell BK444.out 4).trans rfl
                have hcz42_5 : wc.cell? ⟨gb444, 5, none⟩ = some (.int .u64 t441) := (blk_cell BK444.out 5).trans rfl
                have hcz42_6 : wc.cell? ⟨gb444, 6, none⟩ = some (.int .u64 t442) := (blk_cell BK444.out 6).trans rfl
                have hfz42_0 := blk_frozen BK444.out 0
                have hfz42_1 := blk_frozen BK444.out 1
                have hfz42_2 := blk_frozen BK444.out 2
                have hfz42_3 := blk_frozen BK444.out 3
                have hfz42_4 := blk_frozen BK444.out 4
                have hfz42_5 := blk_frozen BK444.out 5
                have hfz42_6 := blk_frozen BK444.out 6
                have hcz43_0 : wc.cell? ⟨gb452, 0, none⟩ = some (.int .i64 t447) := (blk_cell BK452.out 0).trans rfl
                have hcz43_1 : wc.cell? ⟨gb452, 1, none⟩ = some (.bool t448) := (blk_cell BK452.out 1).trans rfl
                have hcz43_2 : wc.cell? ⟨gb452, 2, none⟩ = some (.int .u64 t449) := (blk_cell BK452.out 2).trans rfl
                have hcz43_3 : wc.cell? ⟨gb452, 3, none⟩ = some (.int .i64 t450) := (blk_cell BK452.out 3).trans rfl
                have hfz43_0 := blk_frozen BK452.out 0
                have hfz43_1 := blk_frozen BK452.out 1
                have hfz43_2 := blk_frozen BK452.out 2
                have hfz43_3 := blk_frozen BK452.out 3
                go_wp2
                go_ret
                exact ⟨by first | rfl | (simp [errW_none, errW_some] <;> rfl) | (simp [*, errW_none, errW_some] <;> rfl), by repeat (first | (with_reducible first | exact HB.out | apply below_alloc | apply pw_below_drewN | apply below_drew1 | refine below_set ?_ GE428.out | refine below_set ?_ GE444.out | refine below_set ?_ GE452.out) | exact HB.out)⟩
            · replace c30 := Bool.eq_false_iff.mpr c30
              subst c30
              have H1 : (some false) = some r := by rw [if_neg (show ¬ (false = true) by decide)] at H; exact H
              clear H
              have H := H1
              clear H1
              obtain rfl := Option.some.inj H
              have hnb44 := NB428_444.out
              have hnc44 := NB444_428.out
              have hnb45 := NB428_452.out
              have hnc45 := NB452_428.out
              have hcz46_0 : wc.cell? ⟨gb428, 0, none⟩ = some (.bool t430) := (blk_cell BK428.out 0).trans rfl
              have hcz46_1 : wc.cell? ⟨gb428, 1, none⟩ = some (.slice Ao15 t431.length co15) := (blk_cell BK428.out 1).trans rfl
              have hcz46_2 : wc.cell? ⟨gb428, 2, none⟩ = some (.int .i64 t434) := (blk_cell BK428.out 2).trans rfl
              have hcz46_3 : wc.cell? ⟨gb428, 3, none⟩ = some (.int .i64 t435) := (blk_cell BK428.out 3).trans rfl
              have hfz46_0 := blk_frozen BK428.out 0
              have hfz46_1 := blk_frozen BK428.out 1
              have hfz46_2 := blk_frozen BK428.out 2
              have hfz46_3 := blk_frozen BK428.out 3
              have hnb47 := NB444_452.out
              have hnc47 := NB452_444.out
              have hcz48_0 : wc.cell? ⟨gb444, 0, none⟩ = some (.int .i64 t436) := (blk_cell BK444.out 0).trans rfl
              have hcz48_1 : wc.cell? ⟨gb444, 1, none⟩ = some (.int .i64 t437) := (blk_cell BK444.out 1).trans rfl
              have hcz48_2 : wc.cell? ⟨gb444, 2, none⟩ = some (.int .i64 t438) := (blk_cell BK444.out 2).trans rfl
              have hcz48_3 : wc.cell? ⟨gb444, 3, none⟩ = some (.int .i64 t439) := (blk_cell BK444.out 3).trans rfl
              have hcz48_4 : wc.cell? ⟨gb444, 4, none⟩ = some (.int .u64 t440) := (blk_cell BK444.out 4).trans rfl
              have hcz48_5 : wc.cell? ⟨gb444, 5, none⟩ = some (.int .u64 t441) := (blk_cell BK444.out 5).trans rfl
              have hcz48_6 : wc.cell? ⟨gb444, 6, none⟩ = some (.int .u64 t442) := (blk_cell BK444.out 6).trans rfl
              have hfz48_0 := blk_frozen BK444.out 0
              have hfz48_1 := blk_frozen BK444.out 1
              have hfz48_2 := blk_frozen BK444.out 2
              have hfz48_3 := blk_frozen BK444.out 3
              have hfz48_4 := blk_frozen BK444.out 4
              have hfz48_5 := blk_frozen BK444.out 5
              have hfz48_6 := blk_frozen BK444.out 6
              go_wp2
              go_ret
              exact ⟨by first | rfl | (simp [errW_none, errW_some] <;> rfl) | (simp [*, errW_none, errW_some] <;> rfl), by repeat (first | (with_reducible first | exact HB.out | apply below_alloc | apply pw_below_drewN | apply below_drew1 | refine below_set ?_ GE428.out | refine below_set ?_ GE444.out | refine below_set ?_ GE452.out) | exact HB.out)⟩
          · rw [if_neg c29] at H
            have c29b0 : (t436 == 4) = false := beq_eq_false_iff_ne.mpr c29
            have c29b1 : (t436 != 4) = true := bne_iff_ne.mpr c29
            by_cases c49 : t429 = true
            · subst c49
              have H1 : (if t447 = 2 then (if t436 = 1 then (some ((t447 == 1) == ((t431.length : Int) == 0))) else (some true)) else (if t447 = 1 then (if t436 = 1 then (some ((t447 == 1) == ((t431.length : Int) == 0))) else (some true)) else (some false))) = some r := by rw [if_pos rfl] at H; exact H
              clear H
              have H := H1
              clear H1
              by_cases c50 : t447 = 2
              · rw [if_pos c50] at H
                have c50b0 : (t447 == 2) = true := beq_iff_eq.mpr c50
                have c50b1 : (t447 != 2) = false := bne_eq_false_iff_eq.mpr c50
                clear c50
                by_cases c51 : t436 = 1
                · rw [if_pos c51] at H
                  have c51b0 : (t436 == 1) = true := beq_iff_eq.mpr c51
                  have c51b1 : (t436 != 1) = false := bne_eq_false_iff_eq.mpr c51
                  clear c51
                  obtain rfl := Option.some.inj H
                  have hnb52 := NB428_444.out
                  have hnc52 := NB444_428.out
                  have hnb53 := NB428_452.out
                  have hnc53 := NB452_428.out
                  have hcz54_0 : wc.cell? ⟨gb428, 0, none⟩ = some (.bool t430) := (blk_cell BK428.out 0).trans rfl
                  have hcz54_1 : wc.cell? ⟨gb428, 1, none⟩ = some (.slice Ao15 t431.length co15) := (blk_cell BK428.out 1).trans rfl
                  have hcz54_2 : wc.cell? ⟨gb428, 2, none⟩ = some (.int .i64 t434) := (blk_cell BK428.out 2).trans rfl
                  have hcz54_3 : wc.cell? ⟨gb428, 3, none⟩ = some (.int .i64 t435) := (blk_cell BK428.out 3).trans rfl
                  have hfz54_0 := blk_frozen BK428.out 0
                  have hfz54_1 := blk_frozen BK428.out 1
                  have hfz54_2 := blk_frozen BK428.out 2
                  have hfz54_3 := blk_frozen BK428.out 3
                  have hnb55 := NB444_452.out
                  have hnc55 := NB452_444.out
                  have hcz56_0 : wc.cell? ⟨gb444, 0, none⟩ = some (.int .i64 t436) := (blk_cell BK444.out 0).trans rfl
                  have hcz56_1 : wc.cell? ⟨gb444, 1, none⟩ = some (.int .i64 t437) := (blk_cell BK444.out 1).trans rfl
                  have hcz56_2 : wc.cell? ⟨gb444, 2, none⟩ = some (.int .i64 t438) := (blk_cell BK444.out 2).trans rfl
                  have hcz56_3 : wc.cell? ⟨gb444, 3, none⟩ = some (.int .i64 t439) := (blk_cell BK444.out 3).trans rfl
                  have hcz56_4 : wc.cell? ⟨gb444, 4, none⟩ = some (.int .u64 t440) := (blk_cell BK444.out 4).trans rfl
                  have hcz56_5 : wc.cell? ⟨gb444, 5, none⟩ = some (.int .u64 t441) := (blk_cell BK444.out 5).trans rfl
                  have hcz56_6 : wc.cell? ⟨gb444, 6, none⟩ = some (.int .u64 t442) := (blk_cell BK444.out 6).trans rfl
                  have hfz56_0 := blk_frozen BK444.out 0
                  have hfz56_1 := blk_frozen BK444.out 1
                  have hfz56_2 := blk_frozen BK444.out 2
                  have hfz56_3 := blk_frozen BK444.out 3
                  have hfz56_4 := blk_frozen BK444.out 4
                  have hfz56_5 := blk_frozen BK444.out 5
                  have hfz56_6 := blk_frozen BK444.out 6
                  have hcz57_0 : wc.cell? ⟨gb452, 0, none⟩ = some (.int .i64 t447) := (blk_cell BK452.out 0).trans rfl
                  have hcz57_1 : wc.cell? ⟨gb452, 1, none⟩ = some (.bool t448) := (blk_cell BK452.out 1).trans rfl
                  have hcz57_2 : wc.cell? ⟨gb452, 2, none⟩ = some (.int .u64 t449) := (blk_cell BK452.out 2).trans rfl
                  have hcz57_3 : wc.cell? ⟨gb452, 3, none⟩ = some (.int .i64 t450) := (blk_cell BK452.out 3).trans rfl
                  have hfz57_0 := blk_frozen BK452.out 0
                  have hfz57_1 := blk_frozen BK452.out 1
                  have hfz57_2 := blk_frozen BK452.out 2
                  have hfz57_3 := blk_frozen BK452.out 3
                  go_wp2
                  go_ret
                  exact ⟨by first | rfl | (simp [errW_none, errW_some] <;> rfl) | (simp [*, errW_none, errW_some] <;> rfl), by repeat (first | (with_reducible first | exact HB.out | apply below_alloc | apply pw_below_drewN | apply below_drew1 | refine below_set ?_ GE428.out | refine below_set ?_ GE444.out | refine below_set ?_ GE452.out) | exact HB.out)⟩
                · rw [if_neg c51] at H
                  have c51b0 : (t436 == 1) = false := beq_eq_false_iff_ne.mpr c51
                  have c51b1 : (t436 != 1) = true := bne_iff_ne.mpr c51
                  obtain rfl := Option.some.inj H
                  have hnb58 := NB428_444.out
                  have hnc58 := NB444_428.out
                  have hnb59 := NB428_452.out
                  have hnc59 := NB452_428.out
                  have hcz60_0 : wc.cell? ⟨gb428, 0, none⟩ = some (.bool t430) := (blk_cell BK428.out 0).trans rfl
                  have hcz60_1 : wc.cell? ⟨gb428, 1, none⟩ = some (.slice Ao15 t431.length co15) := (blk_cell BK428.out 1).trans rfl
                  have hcz60_2 : wc.cell? ⟨gb428, 2, none⟩ = some (.int .i64 t434) := (blk_cell BK428.out 2).trans rfl
                  have hcz60_3 : wc.cell? ⟨gb428, 3, none⟩ = some (.int .i64 t435) := (blk_cell BK428.out 3).trans rfl
                  have hfz60_0 := blk_frozen BK428.out 0
                  have hfz60_1 := blk_frozen BK428.out 1
                  have hfz60_2 := blk_frozen BK428.out 2
                  have hfz60_3 := blk_frozen BK428.out 3
                  have hnb61 := NB444_452.out
                  have hnc61 := NB452_444.out
                  have hcz62_0 : wc.cell? ⟨gb444, 0, none⟩ = some (.int .i64 t436) := (blk_cell BK444.out 0).trans rfl
                  have hcz62_1 : wc.cell? ⟨gb444, 1, none⟩ = some (.int .i64 t437) := (blk_cell BK444.out 1).trans rfl
                  have hcz62_2 : wc.cell? ⟨gb444, 2, none⟩ = some (.int .i64 t438) := (blk_cell BK444.out 2).trans rfl
                  have hcz62_3 : wc.cell? ⟨gb444, 3, none⟩ = some (.int .i64 t439) := (blk_cell BK444.out 3).trans rfl
                  have hcz62_4 : wc.cell? ⟨gb444, 4, none⟩ = some (.int .u64 t440) := (blk_cell BK444.out 4).trans rfl
                  have hcz62_5 : wc.cell? ⟨gb444, 5, none⟩ = some (.int .u64 t441) := (blk_cell BK444.out 5).trans rfl
                  have hcz62_6 : wc.cell? ⟨gb444, 6, none⟩ = some (.int .u64 t442) := (blk_cell BK444.out 6).trans rfl
                  have hfz62_0 := blk_frozen BK444.out 0
                  have hfz62_1 := blk_frozen BK444.out 1
                  have hfz62_2 := blk_frozen BK444.out 2
                  have hfz62_3 := blk_frozen BK444.out 3
                  have hfz62_4 := blk_frozen BK444.out 4
                  have hfz62_5 := blk_frozen BK444.out 5
                  have hfz62_6 := blk_frozen BK444.out 6
                  have hcz63_0 : wc.cell? ⟨gb452, 0, none⟩ = some (.int .i64 t447) := (blk_cell BK452.out 0).trans rfl
                  have hcz63_1 : wc.cell? ⟨gb452, 1, none⟩ = some (.bool t448) := (blk_cell BK452.out 1).trans rfl
                  have hcz63_2 : wc.cell? ⟨gb452, 2, none⟩ = some (.int .u64 t449) := (blk_cell BK452.out 2).trans rfl
                  have hcz63_3 : wc.cell? ⟨gb452, 3, none⟩ = some (.int .i64 t450) := (blk_cell BK452.out 3).trans rfl
                  have hfz63_0 := blk_frozen BK452.out 0
                  have hfz63_1 := blk_frozen BK452.out 1
                  have hfz63_2 := blk_frozen BK452.out 2
                  have hfz63_3 := blk_frozen BK452.out 3
                  go_wp2
                  go_ret
                  exact ⟨by first | rfl | (simp [errW_none, errW_some] <;> rfl) | (simp [*, errW_none, errW_some] <;> rfl), by repeat (first | (with_reducible first | exact HB.out | apply below_alloc | apply pw_below_drewN | apply below_drew1 | refine below_set ?_ GE428.out | refine below_set ?_ GE444.out | refine below_set ?_ GE452.out) | exact HB.out)⟩
              · rw [if_neg c50] at H
                have c50b0 : (t447 == 2) = false := beq_eq_false_iff_ne.mpr c50
                have c50b1 : (t447 != 2) = true := bne_iff_ne.mpr c50
                by_cases c64 : t447 = 1
                · rw [if_pos c64] at H
                  have c64b0 : (t447 == 1) = true := beq_iff_eq.mpr c64
                  have c64b1 : (t447 != 1) = false := bne_eq_false_iff_eq.mpr c64
                  clear c64
                  by_cases c65 : t436 = 1
                  · rw [if_pos c65] at H
                    have c65b0 : (t436 == 1) = true := beq_iff_eq.mpr c65
                    have c65b1 : (t436 != 1) = false := bne_eq_false_iff_eq.mpr c65
                    clear c65
                    obtain rfl := Option.some.inj H
                    have hnb66 := NB428_444.out
                    have hnc66 := NB444_428.out
                    have hnb67 := NB428_452.out
                    have hnc67 := NB452_428.out
                    have hcz68_0 : wc.cell? ⟨gb428, 0, none⟩ = some (.bool t430) := (blk_cell BK428.out 0).trans rfl
                    have hcz68_1 : wc.cell? ⟨gb428, 1, none⟩ = some (.slice Ao15 t431.length co15) := (blk_cell BK428.out 1).trans rfl
                    have hcz68_2 : wc.cell? ⟨gb428, 2, none⟩ = some (.int .i64 t434) := (blk_cell BK428.out 2).trans rfl
                    have hcz68_3 : wc.cell? ⟨gb428, 3, none⟩ = some (.int .i64 t435) := (blk_cell BK428.out 3).trans rfl
                    have hfz68_0 := blk_frozen BK428.out 0
                    have hfz68_1 := blk_frozen BK428.out 1
                    have hfz68_2 := blk_frozen BK428.out 2
                    have hfz68_3 := blk_frozen BK428.out 3
                    have hnb69 := NB444_452.out
                    have hnc69 := NB452_444.out
                    have hcz70_0 : wc.cell? ⟨gb444, 0, none⟩ = some (.int .i64 t436) := (blk_cell BK444.out 0).trans rfl
                    have hcz70_1 : wc.cell? ⟨gb444, 1, none⟩ = some (.int .i64 t437) := (blk_cell BK444.out 1).trans rfl
                    have hcz70_2 : wc.cell? ⟨gb444, 2, none⟩ = some (.int .i64 t438) := (blk_cell BK444.out 2).trans rfl
                    have hcz70_3 : wc.cell? ⟨gb444, 3, none⟩ = some (.int .i64 t439) := (blk_cell BK444.out 3).trans rfl
                    have hcz70_4 : wc.cell? ⟨gb444, 4, none⟩ = some (.int .u64 t440) := (blk_cell BK444.out 4).trans rfl
                    have hcz70_5 : wc.cell? ⟨gb444, 5, none⟩ = some (.int .u64 t441) := (blk_cell BK444.out 5).trans rfl
                    have hcz70_6 : wc.cell? ⟨gb444, 6, none⟩ = some (.int .u64 t442) := (blk_cell BK444.out 6).trans rfl
                    have hfz70_0 := blk_frozen BK444.out 0
                    have hfz70_1 := blk_frozen BK444.out 1
                    have hfz70_2 := blk_frozen BK444.out 2
                    have hfz70_3 := blk_frozen BK444.out 3
                    have hfz70_4 := blk_frozen BK444.out 4
                    have hfz70_5 := blk_frozen BK444.out 5
                    have hfz70_6 := blk_frozen BK444.out 6
                    have hcz71_0 : wc.cell? ⟨gb452, 0, none⟩ = some (.int .i64 t447) := (blk_cell BK452.out 0).trans rfl
                    have hcz71_1 : wc.cell? ⟨gb452, 1, none⟩ = some (.bool t448) := (blk_cell BK452.out 1).trans rfl
                    have hcz71_2 : wc.cell? ⟨gb452, 2, none⟩ = some (.int .u64 t449) := (blk_cell BK452.out 2).trans rfl
                    have hcz71_3 : wc.cell? ⟨gb452, 3, none⟩ = some (.int .i64 t450) := (blk_cell BK452.out 3).trans rfl
                    have hfz71_0 := blk_frozen BK452.out 0
                    have hfz71_1 := blk_frozen BK452.out 1
                    have hfz71_2 := blk_frozen BK452.out 2
                    have hfz71_3 := blk_frozen BK452.out 3
                    go_wp2
                    go_ret
                    exact ⟨by first | rfl | (simp [errW_none, errW_some] <;> rfl) | (simp [*, errW_none, errW_some] <;> rfl), by repeat (first | (with_reducible first | exact HB.out | apply below_alloc | apply pw_below_drewN | apply below_drew1 | refine below_set ?_ GE428.out | refine below_set ?_ GE444.out | refine below_set ?_ GE452.out) | exact HB.out)⟩
                  · rw [if_neg c65] at H
                    have c65b0 : (t436 == 1) = false := beq_eq_false_iff_ne.mpr c65
                    have c65b1 : (t436 != 1) = true := bne_iff_ne.mpr c65
                    obtain rfl := Option.some.inj H
                    have hnb72 := NB428_444.out
                    have hnc72 := NB444_428.out
                    have hnb73 := NB428_452.out
                    have hnc73 := NB452_428.out
                    have hcz74_0 : wc.cell? ⟨gb428, 0, none⟩ = some (.bool t430) := (blk_cell BK428.out 0).trans rfl
                    have hcz74_1 : wc.cell? ⟨gb428, 1, none⟩ = some (.slice Ao15 t431.length co15) := (blk_cell BK428.out 1).trans rfl
                    have hcz74_2 : wc.cell? ⟨gb428, 2, none⟩ = some (.int .i64 t434) := (blk_cell BK428.out 2).trans rfl
                    have hcz74_3 : wc.cell? ⟨gb428, 3, none⟩ = some (.int .i64 t435) := (blk_cell BK428.out 3).trans rfl
                    have hfz74_0 := blk_frozen BK428.out 0
                    have hfz74_1 := blk_frozen BK428.out 1
                    have hfz74_2 := blk_frozen BK428.out 2
                    have hfz74_3 := blk_frozen BK428.out 3
                    have hnb75 := NB444_452.out
                    have hnc75 := NB452_444.out
                    have hcz76_0 : wc.cell? ⟨gb444, 0, none⟩ = some (.int .i64 t436) := (blk_cell BK444.out 0).trans rfl
                    have hcz76_1 : wc.cell? ⟨gb444, 1, none⟩ = some (.int .i64 t437) := (blk_cell BK444.out 1).trans rfl
                    have hcz76_2 : wc.cell? ⟨gb444, 2, none⟩ = some (.int .i64 t438) := (blk_cell BK444.out 2).trans rfl
                    have hcz76_3 : wc.cell? ⟨gb444, 3, none⟩ = some (.int .i64 t439) := (blk_cell BK444.out 3).trans rfl
                    have hcz76_4 : wc.cell? ⟨gb444, 4, none⟩ = some (.int .u64 t440) := (blk_cell BK444.out 4).trans rfl
                    have hcz76_5 : wc.cell? ⟨gb444, 5, none⟩ = some (.int .u64 t441) := (blk_cell BK444.out 5).trans rfl
                    have hcz76_6 : wc.cell? ⟨gb444, 6, none⟩ = some (.int .u64 t442) := (blk_cell BK444.out 6).trans rfl
                    have hfz76_0 := blk_frozen BK444.out 0
                    have hfz76_1 := blk_frozen BK444.out 1
                    have hfz76_2 := blk_frozen BK444.out 2
                    have hfz76_3 := blk_frozen BK444.out 3
                    have hfz76_4 := blk_frozen BK444.out 4
                    have hfz76_5 := blk_frozen BK444.out 5
                    have hfz76_6 := blk_frozen BK444.out 6
                    have hcz77_0 : wc.cell? ⟨gb452, 0, none⟩ = some (.int .i64 t447) := (blk_cell BK452.out 0).trans rfl
                    have hcz77_1 : wc.cell? ⟨gb452, 1, none⟩ = some (.bool t448) := (blk_cell BK452.out 1).trans rfl
                    have hcz77_2 : wc.cell? ⟨gb452, 2, none⟩ = some (.int .u64 t449) := (blk_cell BK452.out 2).trans rfl
                    have hcz77_3 : wc.cell? ⟨gb452, 3, none⟩ = some (.int .i64 t450) := (blk_cell BK452.out 3).trans rfl
                    have hfz77_0 := blk_frozen BK452.out 0
                    have hfz77_1 := blk_frozen BK452.out 1
                    have hfz77_2 := blk_frozen BK452.out 2
                    have hfz77_3 := blk_frozen BK452.out 3
                    go_wp2
                    go_ret
                    exact ⟨by first | rfl | (simp [errW_none, errW_some] <;> rfl) | (simp [*, errW_none, errW_some] <;> rfl), by repeat (first | (with_reducible first | exact HB.out | apply below_alloc | apply pw_below_drewN | apply below_drew1 | refine below_set ?_ GE428.out | refine below_set ?_ GE444.out | refine below_set ?_ GE452.out) | exact HB.out)⟩
                · rw [if_neg c64] at H
                  have c64b0 : (t447 == 1) = false := beq_eq_false_iff_ne.mpr c64
                  have c64b1 : (t447 != 1) = true := bne_iff_ne.mpr c64
                  obtain rfl := Option.some.inj H
                  have hnb78 := NB428_444.out
                  have hnc78 := NB444_428.out
                  have hnb79 := NB428_452.out
                  have hnc79 := NB452_428.out
                  have hcz80_0 : wc.cell? ⟨gb428, 0, none⟩ = some (.bool t430) := (blk_cell BK428.out 0).trans rfl
                  have hcz80_1 : wc.cell? ⟨gb428, 1, none⟩ = some (.slice Ao15 t431.length co15) := (blk_cell BK428.out 1).trans rfl
                  have hcz80_2 : wc.cell? ⟨gb428, 2, none⟩ = some (.int .i64 t434) := (blk_cell BK428.out 2).trans rfl
                  have hcz80_3 : wc.cell? ⟨gb428, 3, none⟩ = some (.int .i64 t435) := (blk_cell BK428.out 3).trans rfl
                  have hfz80_0 := blk_frozen BK428.out 0
                  have hfz80_1 := blk_frozen BK428.out 1
                  have hfz80_2 := blk_frozen BK428.out 2
                  have hfz80_3 := blk_frozen BK428.out 3
                  have hnb81 := NB444_452.out
                  have hnc81 := NB452_444.out
                  have hcz82_0 : wc.cell? ⟨gb444, 0, none⟩ = some (.int .i64 t436) := (blk_cell BK444.out 0).trans rfl
                  have hcz82_1 : wc.cell? ⟨gb444, 1, none⟩ = some (.int .i64 t437) := (blk_cell BK444.out 1).trans rfl
                  have hcz82_2 : wc.cell? ⟨gb444, 2, none⟩ = some (.int .i64 t438) := (blk_cell BK444.out 2).trans rfl
                  have hcz82_3 : wc.cell? ⟨gb444, 3, none⟩ = some (.int .i64 t439) := (blk_cell BK444.out 3).trans rfl
                  have hcz82_4 : wc.cell? ⟨gb444, 4, none⟩ = some (.int .u64 t440) := (blk_cell BK444.out 4).trans rfl
                  have hcz82_5 : wc.cell? ⟨gb444, 5, none⟩ = some (.int .u64 t441) := (blk_cell BK444.out 5).trans rfl
                  have hcz82_6 : wc.cell? ⟨gb444, 6, none⟩ = some (.int .u64 t442) := (blk_cell BK444.out 6).trans rfl
                  have hfz82_0 := blk_frozen BK444.out 0
                  have hfz82_1 := blk_frozen BK444.out 1
                  have hfz82_2 := blk_frozen BK444.out 2
                  have hfz82_3 := blk_frozen BK444.out 3
                  have hfz82_4 := blk_frozen BK444.out 4
                  have hfz82_5 := blk_frozen BK444.out 5
                  have hfz82_6 := blk_frozen BK444.out 6
                  have hcz83_0 : wc.cell? ⟨gb452, 0, none⟩ = some (.int .i64 t447) := (blk_cell BK452.out 0).trans rfl
                  have hcz83_1 : wc.cell? ⟨gb452, 1, none⟩ = some (.bool t448) := (blk_cell BK452.out 1).trans rfl
                  have hcz83_2 : wc.cell? ⟨gb452, 2, none⟩ = some (.int .u64 t449) := (blk_cell BK452.out 2).trans rfl
                  have hcz83_3 : wc.cell? ⟨gb452, 3, none⟩ = some (.int .i64 t450) := (blk_cell BK452.out 3).trans rfl
                  have hfz83_0 := blk_frozen BK452.out 0
                  have hfz83_1 := blk_frozen BK452.out 1
                  have hfz83_2 := blk_frozen BK452.out 2
                  have hfz83_3 := blk_frozen BK452.out 3
                  go_wp2
                  go_ret
                  exact ⟨by first | rfl | (simp [errW_none, errW_some] <;> rfl) | (simp [*, errW_none, errW_some] <;> rfl), by repeat (first | (with_reducible first | exact HB.out | apply below_alloc | apply pw_below_drewN | apply below_drew1 | refine below_set ?_ GE428.out | refine below_set ?_ GE444.out | refine below_set ?_ GE452.out) | exact HB.out)⟩
            · replace c49 := Bool.eq_false_iff.mpr c49
              subst c49
              have H1 : (some false) = some r := by rw [if_neg (show ¬ (false = true) by decide)] at H; exact H
              clear H
              have H := H1
              clear H1
              obtain rfl := Option.some.inj H
              have hnb84 := NB428_444.out
              have hnc84 := NB444_428.out
              have hnb85 := NB428_452.out
              have hnc85 := NB452_428.out
              have hcz86_0 : wc.cell? ⟨gb428, 0, none⟩ = some (.bool t430) := (blk_cell BK428.out 0).trans rfl
              have hcz86_1 : wc.cell? ⟨gb428, 1, none⟩ = some (.slice Ao15 t431.length co15) := (blk_cell BK428.out 1).trans rfl
              have hcz86_2 : wc.cell? ⟨gb428, 2, none⟩ = some (.int .i64 t434) := (blk_cell BK428.out 2).trans rfl
              have hcz86_3 : wc.cell? ⟨gb428, 3, none⟩ = some (.int .i64 t435) := (blk_cell BK428.out 3).trans rfl
              have hfz86_0 := blk_frozen BK428.out 0
              have hfz86_1 := blk_frozen BK428.out 1
              have hfz86_2 := blk_frozen BK428.out 2
              have hfz86_3 := blk_frozen BK428.out 3
              have hnb87 := NB444_452.out
              have hnc87 := NB452_444.out
              have hcz88_0 : wc.cell? ⟨gb444, 0, none⟩ = some (.int .i64 t436) := (blk_cell BK444.out 0).trans rfl
              have hcz88_1 : wc.cell? ⟨gb444, 1, none⟩ = some (.int .i64 t437) := (blk_cell BK444.out 1).trans rfl
              have hcz88_2 : wc.cell? ⟨gb444, 2, none⟩ = some (.int .i64 t438) := (blk_cell BK444.out 2).trans rfl
              have hcz88_3 : wc.cell? ⟨gb444, 3, none⟩ = some (.int .i64 t439) := (blk_cell BK444.out 3).trans rfl
              have hcz88_4 : wc.cell? ⟨gb444, 4, none⟩ = some (.int .u64 t440) := (blk_cell BK444.out 4).trans rfl
              have hcz88_5 : wc.cell? ⟨gb444, 5, none⟩ = some (.int .u64 t441) := (blk_cell BK444.out 5).trans rfl
              have hcz88_6 : wc.cell? ⟨gb444, 6, none⟩ = some (.int .u64 t442) := (blk_cell BK444.out 6).trans rfl
              have hfz88_0 := blk_frozen BK444.out 0
              have hfz88_1 := blk_frozen BK444.out 1
              have hfz88_2 := blk_frozen BK444.out 2
              have hfz88_3 := blk_frozen BK444.out 3
              have hfz88_4 := blk_frozen BK444.out 4
              have hfz88_5 := blk_frozen BK444.out 5
              have hfz88_6 := blk_frozen BK444.out 6
              go_wp2
              go_ret
              exact ⟨by first | rfl | (simp [errW_none, errW_some] <;> rfl) | (simp [*, errW_none, errW_some] <;> rfl), by repeat (first | (with_reducible first | exact HB.out | apply below_alloc | apply pw_below_drewN | apply below_drew1 | refine below_set ?_ GE428.out | refine below_set ?_ GE444.out | refine below_set ?_ GE452.out) | exact HB.out)⟩
  · rw [if_neg c7] at H
    have c7b0 : (t443 == 0) = false := beq_eq_false_iff_ne.mpr c7
    have c7b1 : (t443 != 0) = true := bne_iff_ne.mpr c7
    by_cases c89 : t429 = true
    · subst c89
      have H1 : (some (t446 == 3)) = some r := by rw [if_pos rfl] at H; exact H
      clear H
      have H := H1
      clear H1
      obtain rfl := Option.some.inj H
      go_enter Tryd.func8, Tryd.ntmps8
      go_wp2_with (first | ((with_reducible refine gate_dst (N := 3) rfl ?_); refine box_event ?hg (N := 3) ?hd (cs := #[.bool a1_0, .slice A1_1 l1_1.length c1_1, .int .i64 a1_2, .int .i64 a1_3]) (t := 25) ?hr ?_; (case hd => rfl); (case hg => rfl); (case hr => first | (go_simp; done) | (go_simp; rfl)); intro gb428 hg w90 hbox hb; have n0_ := Aside0.mk (below_step (by repeat (first | (with_reducible first | exact HB.out | apply below_alloc | apply pw_below_drewN | apply below_drew1) | exact HB.out)) hb); have n1_ := Aside0.mk (hbox); have n2_ := Aside0.mk ((by rw [hg]; exact (below_size (by repeat (first | (with_reducible first | exact HB.out | apply below_alloc | apply pw_below_drewN | apply below_drew1) | exact HB.out))) : w.heap.size ≤ gb428)); have n3_ := Aside0.mk ((by rw [hg]; exact (below_size (by repeat (first | (with_reducible first | exact HB.out | apply below_alloc | apply pw_below_drewN | apply below_drew1) | exact HB.out))) : w.heap.size ≤ gb428)); clear HB; have HB := n0_; have BK428 := n1_; have GW428 := n2_; have GE428 := n3_; clear n0_ n1_ n2_ n3_; clear hb hbox hg) | ((with_reducible refine gate_callee (f := 11) rfl ?_); refine goesL_ (some 13) rfl rfl Tryd.func11 (by kernel_rfl) rfl #[] rfl (by (try simp only [List.map_toArray, List.map_cons, List.map_nil]); first | done | rfl | (simp only [List.length_drop, List.length_take]; rfl)) ?_; (with_reducible refine (caliperlaw08_shown.calls  true _ ?side1 A3.out).mono ?_); (case side1 => exact Glob.below HG.out (by repeat (first | (with_reducible first | exact HB.out | apply below_alloc | apply pw_below_drewN | apply below_drew1 | refine below_set ?_ GE428.out) | exact HB.out))); rintro e w91 ⟨rfl, hb⟩; refine ⟨_, rfl, ?_⟩; have n0_ := Aside0.mk (blk_below (g := gb428) (o := .cells #[.bool a1_0, .slice A1_1 l1_1.length c1_1, .int .i64 a1_2, .int .i64 a1_3] 25 (0, 0)) (by (with_reducible repeat (first | refine blk_drewN ?_ _ | refine blk_drew ?_ | refine blk_alloc ?_ _)); exact BK428.out) hb); have n1_ := Aside0.mk (below_step (by repeat (first | (with_reducible first | exact HB.out | apply below_alloc | apply pw_below_drewN | apply below_drew1 | refine below_set ?_ GE428.out) | exact HB.out)) hb); clear BK428; clear HB; have BK428 := n0_; have HB := n1_; clear n0_ n1_; (try clear hb); (try clear hb2); (try clear hk); (try clear hi); have hcz92_0 : w91.cell? ⟨gb428, 0, none⟩ = some (.bool a1_0) := (blk_cell BK428.out 0).trans rfl; have hcz92_1 : w91.cell? ⟨gb428, 1, none⟩ = some (.slice A1_1 l1_1.length c1_1) := (blk_cell BK428.out 1).trans rfl; have hcz92_2 : w91.cell? ⟨gb428, 2, none⟩ = some (.int .i64 a1_2) := (blk_cell BK428.out 2).trans rfl; have hcz92_3 : w91.cell? ⟨gb428, 3, none⟩ = some (.int .i64 a1_3) := (blk_cell BK428.out 3).trans rfl; have hfz92_0 := blk_frozen BK428.out 0; have hfz92_1 := blk_frozen BK428.out 1; have hfz92_2 := blk_frozen BK428.out 2; have hfz92_3 := blk_frozen BK428.out 3) | ((with_reducible refine gate_callee (f := 12) rfl ?_); refine goesL_ (some 15) rfl rfl Tryd.func12 (by kernel_rfl) rfl #[.agg #[.bool a1_0, .slice A1_1 l1_1.length c1_1, .int .i64 a1_2, .int .i64 a1_3]] rfl (by (try simp only [List.map_toArray, List.map_cons, List.map_nil]); first | done | rfl | (simp only [List.length_drop, List.length_take]; rfl)) ?_; (with_reducible refine (caliperlaw08_small.calls k a1_0 (fun k_ => k_ < w.heap.size) _ _ l1_1 a1_2 a1_3 t430 t431 t434 t435 _ ?side1 A4.out).mono ?_); (case side1 => exact Kd.V_mk HC1_1.out (Kd.F_below (Kd.C_F (Kd.heap_int .u64) HR1_1.out) (by repeat (first | (with_reducible first | exact HB.out | apply below_alloc | apply pw_below_drewN | apply below_drew1 | refine below_set ?_ GE428.out) | exact HB.out)))); rintro e w93 ⟨v432, rfl, ho0, hb⟩; refine ⟨_, rfl, ?_⟩; have n0_ := Aside0.mk (Kd.V_lower (Kd.V_mono (ok' := fun k_ => k_ ≠ gb428) ho0 (fun k_ hk_ => Or.elim hk_ (fun hs_ => fun e_ => Nat.not_le.2 hs_ (by rw [e_]; exact GW428.out)) (fun hn_ => (Kd.freshB (g := gb428) (o := .cells #[.bool a1_0, .slice A1_1 l1_1.length c1_1, .int .i64 a1_2, .int .i64 a1_3] 25 (0, 0)) (by (with_reducible repeat (first | refine blk_drewN ?_ _ | refine blk_drew ?_ | refine blk_alloc ?_ _)); exact BK428.out) k_ hn_)))) (below_size (by repeat (first | (with_reducible first | exact HB.out | apply below_alloc | apply pw_below_drewN | apply below_drew1 | refine below_set ?_ GE428.out) | exact HB.out)))); have n1_ := Aside0.mk (blk_below (g := gb428) (o := .cells #[.bool a1_0, .slice A1_1 l1_1.length c1_1, .int .i64 a1_2, .int .i64 a1_3] 25 (0, 0)) (by (with_reducible repeat (first | refine blk_drewN ?_ _ | refine blk_drew ?_ | refine blk_alloc ?_ _)); exact BK428.out) hb); have n2_ := Aside0.mk (below_step (by repeat (first | (with_reducible first | exact HB.out | apply below_alloc | apply pw_below_drewN | apply below_drew1 | refine below_set ?_ GE428.out) | exact HB.out)) hb); clear BK428; clear HB; have HO433 := n0_; have BK428 := n1_; have HB := n2_; clear n0_ n1_ n2_; (try clear hb); (try clear hb2); (try clear hk); (try clear hi); (try clear ho0); have hcz94_0 : w93.cell? ⟨gb428, 0, none⟩ = some (.bool a1_0) := (blk_cell BK428.out 0).trans rfl; have hcz94_1 : w93.cell? ⟨gb428, 1, none⟩ = some (.slice A1_1 l1_1.length c1_1) := (blk_cell BK428.out 1).trans rfl; have hcz94_2 : w93.cell? ⟨gb428, 2, none⟩ = some (.int .i64 a1_2) := (blk_cell BK428.out 2).trans rfl; have hcz94_3 : w93.cell? ⟨gb428, 3, none⟩ = some (.int .i64 a1_3) := (blk_cell BK428.out 3).trans rfl; have hfz94_0 := blk_frozen BK428.out 0; have hfz94_1 := blk_frozen BK428.out 1; have hfz94_2 := blk_frozen BK428.out 2; have hfz94_3 := blk_frozen BK428.out 3; obtain ⟨Ao95, co95, eo95⟩ := Kd.V_slice HO433.out; subst eo95) | ((with_reducible refine gate_callee (f := 23) rfl ?_); refine goesL_ (some 18) rfl rfl Tryd.func23 (by kernel_rfl) rfl #[.int .i64 a0] rfl (by (try simp only [List.map_toArray, List.map_cons, List.map_nil]); first | done | rfl | (simp only [List.length_drop, List.length_take]; rfl)) ?_; (with_reducible refine (forms_Of.calls a0 t436 t437 t438 t439 t440 t441 t442 t443 _ ?side1 A5.out).mono ?_); (case side1 => exact Glob.below HG.out (by repeat (first | (with_reducible first | exact HB.out | apply below_alloc | apply pw_below_drewN | apply below_drew1 | refine below_set ?_ GE428.out) | exact HB.out))); rintro e w96 ⟨rfl, hb⟩; refine ⟨_, rfl, ?_⟩; have n0_ := Aside0.mk (Kd.V_below (by (with_reducible repeat (first | apply Kd.V_alloc | apply Kd.V_drewN | apply Kd.V_drew)); exact (Kd.V_mono (Kd.V_far (p := ⟨gb428, 3, none⟩) (Kd.V_far (p := ⟨gb428, 2, none⟩) (Kd.V_far (p := ⟨gb428, 1, none⟩) (Kd.V_far (p := ⟨gb428, 0, none⟩) (Kd.V_mono HO433.out (fun k_ hk => (⟨hk, hk⟩ : _ ∧ k_ ≠ gb428))) (fun _ hk => hk.2) (.bool t430)) (fun _ hk => hk.2) (.slice Ao95 t431.length co95)) (fun _ hk => hk.2) (.int .i64 t434)) (fun _ hk => hk.2) (.int .i64 t435)) (fun _ h_ => h_.1))) hb); have n1_ := Aside0.mk (blk_below (g := gb428) (o := .cells #[.bool t430, .slice Ao95 t431.length co95, .int .i64 t434, .int .i64 t435] 25 (0, 0)) (by (with_reducible repeat (first | refine blk_drewN ?_ _ | refine blk_drew ?_ | refine blk_alloc ?_ _)); refine blk_put (cs := #[.bool t430, .slice Ao95 t431.length co95, .int .i64 t434, .int .i64 a1_3]) ?_ 3 _ rfl; (with_reducible repeat (first | refine blk_drewN ?_ _ | refine blk_drew ?_ | refine blk_alloc ?_ _)); refine blk_put (cs := #[.bool t430, .slice Ao95 t431.length co95, .int .i64 a1_2, .int .i64 a1_3]) ?_ 2 _ rfl; (with_reducible repeat (first | refine blk_drewN ?_ _ | refine blk_drew ?_ | refine blk_alloc ?_ _)); refine blk_put (cs := #[.bool t430, .slice A1_1 l1_1.length c1_1, .int .i64 a1_2, .int .i64 a1_3]) ?_ 1 _ rfl; (with_reducible repeat (first | refine blk_drewN ?_ _ | refine blk_drew ?_ | refine blk_alloc ?_ _)); refine blk_put (cs := #[.bool a1_0, .slice A1_1 l1_1.length c1_1, .int .i64 a1_2, .int .i64 a1_3]) ?_ 0 _ rfl; (with_reducible repeat (first | refine blk_drewN ?_ _ | refine blk_drew ?_ | refine blk_alloc ?_ _)); exact BK428.out) hb); have n2_ := Aside0.mk (below_step (by repeat (first | (with_reducible first | exact HB.out | apply below_alloc | apply pw_below_drewN | apply below_drew1 | refine below_set ?_ GE428.out) | exact HB.out)) hb); clear HO433; clear BK428; clear HB; have HO433 := n0_; have BK428 := n1_; have HB := n2_; clear n0_ n1_ n2_; (try clear hb); (try clear hb2); (try clear hk); (try clear hi)) | ((with_reducible refine gate_dst (N := 6) rfl ?_); refine box_event ?hg (N := 6) ?hd (cs := #[.int .i64 0, .int .i64 0, .int .i64 0, .int .i64 0, .int .u64 0, .int .u64 0, .int .u64 0]) (t := 51) ?hr ?_; (case hd => rfl); (case hg => rfl); (case hr => first | (go_simp; done) | (go_simp; rfl)); intro gb444 hg w97 hbox hb; have n0_ := Aside0.mk (Kd.V_below (Kd.V_elderB (by (with_reducible repeat (first | apply Kd.V_alloc | apply Kd.V_drewN | apply Kd.V_drew)); exact HO433.out) gb444 (Nat.le_of_eq hg.symm)) hb); have n1_ := Aside0.mk (blk_below (g := gb428) (o := .cells #[.bool t430, .slice Ao95 t431.length co95, .int .i64 t434, .int .i64 t435] 25 (0, 0)) (by (with_reducible repeat (first | refine blk_drewN ?_ _ | refine blk_drew ?_ | refine blk_alloc ?_ _)); exact BK428.out) hb); have n2_ := Aside0.mk (below_step (by repeat (first | (with_reducible first | exact HB.out | apply below_alloc | apply pw_below_drewN | apply below_drew1 | refine below_set ?_ GE428.out) | exact HB.out)) hb); have n3_ := Aside0.mk (hbox); have n4_ := Aside0.mk ((by rw [hg]; exact (below_size (by repeat (first | (with_reducible first | exact HB.out | apply below_alloc | apply pw_below_drewN | apply below_drew1 | refine below_set ?_ GE428.out) | exact HB.out))) : w.heap.size ≤ gb444)); have n5_ := Aside0.mk ((by rw [hg]; exact (below_size (by repeat (first | (with_reducible first | exact HB.out | apply below_alloc | apply pw_below_drewN | apply below_drew1 | refine below_set ?_ GE428.out) | exact HB.out))) : w.heap.size ≤ gb444)); have n6_ := Aside0.mk ((by rw [hg]; exact Nat.ne_of_lt (blk_lt (g := gb428) (o := .cells #[.bool t430, .slice Ao95 t431.length co95, .int .i64 t434, .int .i64 t435] 25 (0, 0)) (by (with_reducible repeat (first | refine blk_drewN ?_ _ | refine blk_drew ?_ | refine blk_alloc ?_ _)); exact BK428.out)) : gb428 ≠ gb444)); have n7_ := Aside0.mk ((by rw [hg]; exact Nat.ne_of_gt (blk_lt (g := gb428) (o := .cells #[.bool t430, .slice Ao95 t431.length co95, .int .i64 t434, .int .i64 t435] 25 (0, 0)) (by (with_reducible repeat (first | refine blk_drewN ?_ _ | refine blk_drew ?_ | refine blk_alloc ?_ _)); exact BK428.out)) : gb444 ≠ gb428)); clear HO433; clear BK428; clear HB; have HO433 := n0_; have BK428 := n1_; have HB := n2_; have BK444 := n3_; have GW444 := n4_; have GE444 := n5_; have NB428_444 := n6_; have NB444_428 := n7_; clear n0_ n1_ n2_ n3_ n4_ n5_ n6_ n7_; clear hb hbox hg; have hnb98 := NB444_428.out; have hnc98 := NB428_444.out; have hcz99_0 : w97.cell? ⟨gb444, 0, none⟩ = some (.int .i64 0) := (blk_cell BK444.out 0).trans rfl; have hcz99_1 : w97.cell? ⟨gb444, 1, none⟩ = some (.int .i64 0) := (blk_cell BK444.out 1).trans rfl; have hcz99_2 : w97.cell? ⟨gb444, 2, none⟩ = some (.int .i64 0) := (blk_cell BK444.out 2).trans rfl; have hcz99_3 : w97.cell? ⟨gb444, 3, none⟩ = some (.int .i64 0) := (blk_cell BK444.out 3).trans rfl; have hcz99_4 : w97.cell? ⟨gb444, 4, none⟩ = some (.int .u64 0) := (blk_cell BK444.out 4).trans rfl; have hcz99_5 : w97.cell? ⟨gb444, 5, none⟩ = some (.int .u64 0) := (blk_cell BK444.out 5).trans rfl; have hcz99_6 : w97.cell? ⟨gb444, 6, none⟩ = some (.int .u64 0) := (blk_cell BK444.out 6).trans rfl; have hfz99_0 := blk_frozen BK444.out 0; have hfz99_1 := blk_frozen BK444.out 1; have hfz99_2 := blk_frozen BK444.out 2; have hfz99_3 := blk_frozen BK444.out 3; have hfz99_4 := blk_frozen BK444.out 4; have hfz99_5 := blk_frozen BK444.out 5; have hfz99_6 := blk_frozen BK444.out 6; have hcz100_0 : w97.cell? ⟨gb428, 0, none⟩ = some (.bool t430) := (blk_cell BK428.out 0).trans rfl; have hcz100_1 : w97.cell? ⟨gb428, 1, none⟩ = some (.slice Ao95 t431.length co95) := (blk_cell BK428.out 1).trans rfl; have hcz100_2 : w97.cell? ⟨gb428, 2, none⟩ = some (.int .i64 t434) := (blk_cell BK428.out 2).trans rfl; have hcz100_3 : w97.cell? ⟨gb428, 3, none⟩ = some (.int .i64 t435) := (blk_cell BK428.out 3).trans rfl; have hfz100_0 := blk_frozen BK428.out 0; have hfz100_1 := blk_frozen BK428.out 1; have hfz100_2 := blk_frozen BK428.out 2; have hfz100_3 := blk_frozen BK428.out 3) | ((with_reducible refine gate_callee (f := 13) rfl ?_); refine goesL_ (some 24) rfl rfl Tryd.func13 (by kernel_rfl) rfl #[.int .i64 a0, .int .i64 1, .agg #[.bool t430, .slice Ao95 t431.length co95, .int .i64 t434, .int .i64 t435]] rfl (by (try simp only [List.map_toArray, List.map_cons, List.map_nil]); first | done | rfl | (simp only [List.length_drop, List.length_take]; rfl)) ?_; (with_reducible refine (round_Round.calls k a0 1 t430 _ _ t431 t434 t435 t445 t446 _ ?side3 ?side1 ?side2 A6.out).mono ?_); (case side1 => refine (Kd.V_reads' (e := 28) (base := w.heap.size) (ok := fun k_ => (k_ ≠ gb428 ∧ k_ ≠ gb444)) (n := t431.length) (c := co95) ?_).2.2; exact (by (with_reducible repeat (first | apply Kd.V_alloc | apply Kd.V_drewN | apply Kd.V_drew)); exact (Kd.V_mono (Kd.V_far (p := ⟨gb444, 6, none⟩) (Kd.V_far (p := ⟨gb444, 5, none⟩) (Kd.V_far (p := ⟨gb444, 4, none⟩) (Kd.V_far (p := ⟨gb444, 3, none⟩) (Kd.V_far (p := ⟨gb444, 2, none⟩) (Kd.V_far (p := ⟨gb444, 1, none⟩) (Kd.V_far (p := ⟨gb444, 0, none⟩) (Kd.V_mono HO433.out (fun k_ hk => (⟨hk, hk.2⟩ : _ ∧ k_ ≠ gb444))) (fun _ hk => hk.2) (.int .i64 t436)) (fun _ hk => hk.2) (.int .i64 t437)) (fun _ hk => hk.2) (.int .i64 t438)) (fun _ hk => hk.2) (.int .i64 t439)) (fun _ hk => hk.2) (.int .u64 t440)) (fun _ hk => hk.2) (.int .u64 t441)) (fun _ hk => hk.2) (.int .u64 t442)) (fun _ h_ => h_.1)))); (case side2 => exact (Kd.V_reads' HO433.out).2.1); (case side3 => exact Glob.below HG.out (by repeat (first | (with_reducible first | exact HB.out | apply below_alloc | apply pw_below_drewN | apply below_drew1 | refine below_set ?_ GE428.out | refine below_set ?_ GE444.out) | exact HB.out))); rintro e w101 ⟨rfl, hb⟩; refine ⟨_, rfl, ?_⟩; have n0_ := Aside0.mk (Kd.V_below (by (with_reducible repeat (first | apply Kd.V_alloc | apply Kd.V_drewN | apply Kd.V_drew)); exact (Kd.V_mono (Kd.V_far (p := ⟨gb444, 6, none⟩) (Kd.V_far (p := ⟨gb444, 5, none⟩) (Kd.V_far (p := ⟨gb444, 4, none⟩) (Kd.V_far (p := ⟨gb444, 3, none⟩) (Kd.V_far (p := ⟨gb444, 2, none⟩) (Kd.V_far (p := ⟨gb444, 1, none⟩) (Kd.V_far (p := ⟨gb444, 0, none⟩) (Kd.V_mono HO433.out (fun k_ hk => (⟨hk, hk.2⟩ : _ ∧ k_ ≠ gb444))) (fun _ hk => hk.2) (.int .i64 t436)) (fun _ hk => hk.2) (.int .i64 t437)) (fun _ hk => hk.2) (.int .i64 t438)) (fun _ hk => hk.2) (.int .i64 t439)) (fun _ hk => hk.2) (.int .u64 t440)) (fun _ hk => hk.2) (.int .u64 t441)) (fun _ hk => hk.2) (.int .u64 t442)) (fun _ h_ => h_.1))) hb); have n1_ := Aside0.mk (blk_below (g := gb428) (o := .cells #[.bool t430, .slice Ao95 t431.length co95, .int .i64 t434, .int .i64 t435] 25 (0, 0)) (by (with_reducible repeat (first | refine blk_drewN ?_ _ | refine blk_drew ?_ | refine blk_alloc ?_ _)); refine blk_far ?_ NB428_444.out _; (with_reducible repeat (first | refine blk_drewN ?_ _ | refine blk_drew ?_ | refine blk_alloc ?_ _)); refine blk_far ?_ NB428_444.out _; (with_reducible repeat (first | refine blk_drewN ?_ _ | refine blk_drew ?_ | refine blk_alloc ?_ _)); refine blk_far ?_ NB428_444.out _; (with_reducible repeat (first | refine blk_drewN ?_ _ | refine blk_drew ?_ | refine blk_alloc ?_ _)); refine blk_far ?_ NB428_444.out _; (with_reducible repeat (first | refine blk_drewN ?_ _ | refine blk_drew ?_ | refine blk_alloc ?_ _)); refine blk_far ?_ NB428_444.out _; (with_reducible repeat (first | refine blk_drewN ?_ _ | refine blk_drew ?_ | refine blk_alloc ?_ _)); refine blk_far ?_ NB428_444.out _; (with_reducible repeat (first | refine blk_drewN ?_ _ | refine blk_drew ?_ | refine blk_alloc ?_ _)); refine blk_far ?_ NB428_444.out _; (with_reducible repeat (first | refine blk_drewN ?_ _ | refine blk_drew ?_ | refine blk_alloc ?_ _)); exact BK428.out) hb); have n2_ := Aside0.mk (blk_below (g := gb444) (o := .cells #[.int .i64 t436, .int .i64 t437, .int .i64 t438, .int .i64 t439, .int .u64 t440, .int .u64 t441, .int .u64 t442] 51 (0, 0)) (by (with_reducible repeat (first | refine blk_drewN ?_ _ | refine blk_drew ?_ | refine blk_alloc ?_ _)); refine blk_put (cs := #[.int .i64 t436, .int .i64 t437, .int .i64 t438, .int .i64 t439, .int .u64 t440, .int .u64 t441, .int .u64 0]) ?_ 6 _ rfl; (with_reducible repeat (first | refine blk_drewN ?_ _ | refine blk_drew ?_ | refine blk_alloc ?_ _)); refine blk_put (cs := #[.int .i64 t436, .int .i64 t437, .int .i64 t438, .int .i64 t439, .int .u64 t440, .int .u64 0, .int .u64 0]) ?_ 5 _ rfl; (with_reducible repeat (first | refine blk_drewN ?_ _ | refine blk_drew ?_ | refine blk_alloc ?_ _)); refine blk_put (cs := #[.int .i64 t436, .int .i64 t437, .int .i64 t438, .int .i64 t439, .int .u64 0, .int .u64 0, .int .u64 0]) ?_ 4 _ rfl; (with_reducible repeat (first | refine blk_drewN ?_ _ | refine blk_drew ?_ | refine blk_alloc ?_ _)); refine blk_put (cs := #[.int .i64 t436, .int .i64 t437, .int .i64 t438, .int .i64 0, .int .u64 0, .int .u64 0, .int .u64 0]) ?_ 3 _ rfl; (with_reducible repeat (first | refine blk_drewN ?_ _ | refine blk_drew ?_ | refine blk_alloc ?_ _)); refine blk_put (cs := #[.int .i64 t436, .int .i64 t437, .int .i64 0, .int .i64 0, .int .u64 0, .int .u64 0, .int .u64 0]) ?_ 2 _ rfl; (with_reducible repeat (first | refine blk_drewN ?_ _ | refine blk_drew ?_ | refine blk_alloc ?_ _)); refine blk_put (cs := #[.int .i64 t436, .int .i64 0, .int .i64 0, .int .i64 0, .int .u64 0, .int .u64 0, .int .u64 0]) ?_ 1 _ rfl; (with_reducible repeat (first | refine blk_drewN ?_ _ | refine blk_drew ?_ | refine blk_alloc ?_ _)); refine blk_put (cs := #[.int .i64 0, .int .i64 0, .int .i64 0, .int .i64 0, .int .u64 0, .int .u64 0, .int .u64 0]) ?_ 0 _ rfl; (with_reducible repeat (first | refine blk_drewN ?_ _ | refine blk_drew ?_ | refine blk_alloc ?_ _)); exact BK444.out) hb); have n3_ := Aside0.mk (below_step (by repeat (first | (with_reducible first | exact HB.out | apply below_alloc | apply pw_below_drewN | apply below_drew1 | refine below_set ?_ GE428.out | refine below_set ?_ GE444.out) | exact HB.out)) hb); clear HO433; clear BK428; clear BK444; clear HB; have HO433 := n0_; have BK428 := n1_; have BK444 := n2_; have HB := n3_; clear n0_ n1_ n2_ n3_; (try clear hb); (try clear hb2); (try clear hk); (try clear hi)))
      go_ret
      exact ⟨by first | rfl | (simp [errW_none, errW_some] <;> rfl) | (simp [*, errW_none, errW_some] <;> rfl), by repeat (first | (with_reducible first | exact HB.out | apply below_alloc | apply pw_below_drewN | apply below_drew1 | refine below_set ?_ GE428.out | refine below_set ?_ GE444.out) | exact HB.out)⟩
    · replace c89 := Bool.eq_false_iff.mpr c89
      subst c89
      have H1 : (some false) = some r := by rw [if_neg (show ¬ (false = true) by decide)] at H; exact H
      clear H
      have H := H1
      clear H1
      obtain rfl := Option.some.inj H
      go_enter Tryd.func8, Tryd.ntmps8
      go_wp2_with (first | ((with_reducible refine gate_dst (N := 3) rfl ?_); refine box_event ?hg (N := 3) ?hd (cs := #[.bool a1_0, .slice A1_1 l1_1.length c1_1, .int .i64 a1_2, .int .i64 a1_3]) (t := 25) ?hr ?_; (case hd => rfl); (case hg => rfl); (case hr => first | (go_simp; done) | (go_simp; rfl)); intro gb428 hg w102 hbox hb; have n0_ := Aside0.mk (below_step (by repeat (first | (with_reducible first | exact HB.out | apply below_alloc | apply pw_below_drewN | apply below_drew1) | exact HB.out)) hb); have n1_ := Aside0.mk (hbox); have n2_ := Aside0.mk ((by rw [hg]; exact (below_size (by repeat (first | (with_reducible first | exact HB.out | apply below_alloc | apply pw_below_drewN | apply below_drew1) | exact HB.out))) : w.heap.size ≤ gb428)); have n3_ := Aside0.mk ((by rw [hg]; exact (below_size (by repeat (first | (with_reducible first | exact HB.out | apply below_alloc | apply pw_below_drewN | apply below_drew1) | exact HB.out))) : w.heap.size ≤ gb428)); clear HB; have HB := n0_; have BK428 := n1_; have GW428 := n2_; have GE428 := n3_; clear n0_ n1_ n2_ n3_; clear hb hbox hg) | ((with_reducible refine gate_callee (f := 11) rfl ?_); refine goesL_ (some 13) rfl rfl Tryd.func11 (by kernel_rfl) rfl #[] rfl (by (try simp only [List.map_toArray, List.map_cons, List.map_nil]); first | done | rfl | (simp only [List.length_drop, List.length_take]; rfl)) ?_; (with_reducible refine (caliperlaw08_shown.calls  false _ ?side1 A3.out).mono ?_); (case side1 => exact Glob.below HG.out (by repeat (first | (with_reducible first | exact HB.out | apply below_alloc | apply pw_below_drewN | apply below_drew1 | refine below_set ?_ GE428.out) | exact HB.out))); rintro e w103 ⟨rfl, hb⟩; refine ⟨_, rfl, ?_⟩; have n0_ := Aside0.mk (blk_below (g := gb428) (o := .cells #[.bool a1_0, .slice A1_1 l1_1.length c1_1, .int .i64 a1_2, .int .i64 a1_3] 25 (0, 0)) (by (with_reducible repeat (first | refine blk_drewN ?_ _ | refine blk_drew ?_ | refine blk_alloc ?_ _)); exact BK428.out) hb); have n1_ := Aside0.mk (below_step (by repeat (first | (with_reducible first | exact HB.out | apply below_alloc | apply pw_below_drewN | apply below_drew1 | refine below_set ?_ GE428.out) | exact HB.out)) hb); clear BK428; clear HB; have BK428 := n0_; have HB := n1_; clear n0_ n1_; (try clear hb); (try clear hb2); (try clear hk); (try clear hi); have hcz104_0 : w103.cell? ⟨gb428, 0, none⟩ = some (.bool a1_0) := (blk_cell BK428.out 0).trans rfl; have hcz104_1 : w103.cell? ⟨gb428, 1, none⟩ = some (.slice A1_1 l1_1.length c1_1) := (blk_cell BK428.out 1).trans rfl; have hcz104_2 : w103.cell? ⟨gb428, 2, none⟩ = some (.int .i64 a1_2) := (blk_cell BK428.out 2).trans rfl; have hcz104_3 : w103.cell? ⟨gb428, 3, none⟩ = some (.int .i64 a1_3) := (blk_cell BK428.out 3).trans rfl; have hfz104_0 := blk_frozen BK428.out 0; have hfz104_1 := blk_frozen BK428.out 1; have hfz104_2 := blk_frozen BK428.out 2; have hfz104_3 := blk_frozen BK428.out 3) | ((with_reducible refine gate_callee (f := 12) rfl ?_); refine goesL_ (some 15) rfl rfl Tryd.func12 (by kernel_rfl) rfl #[.agg #[.bool a1_0, .slice A1_1 l1_1.length c1_1, .int .i64 a1_2, .int .i64 a1_3]] rfl (by (try simp only [List.map_toArray, List.map_cons, List.map_nil]); first | done | rfl | (simp only [List.length_drop, List.length_take]; rfl)) ?_; (with_reducible refine (caliperlaw08_small.calls k a1_0 (fun k_ => k_ < w.heap.size) _ _ l1_1 a1_2 a1_3 t430 t431 t434 t435 _ ?side1 A4.out).mono ?_); (case side1 => exact Kd.V_mk HC1_1.out (Kd.F_below (Kd.C_F (Kd.heap_int .u64) HR1_1.out) (by repeat (first | (with_reducible first | exact HB.out | apply below_alloc | apply pw_below_drewN | apply below_drew1 | refine below_set ?_ GE428.out) | exact HB.out)))); rintro e w105 ⟨v432, rfl, ho0, hb⟩; refine ⟨_, rfl, ?_⟩; have n0_ := Aside0.mk (Kd.V_lower (Kd.V_mono (ok' := fun k_ => k_ ≠ gb428) ho0 (fun k_ hk_ => Or.elim hk_ (fun hs_ => fun e_ => Nat.not_le.2 hs_ (by rw [e_]; exact GW428.out)) (fun hn_ => (Kd.freshB (g := gb428) (o := .cells #[.bool a1_0, .slice A1_1 l1_1.length c1_1, .int .i64 a1_2, .int .i64 a1_3] 25 (0, 0)) (by (with_reducible repeat (first | refine blk_drewN ?_ _ | refine blk_drew ?_ | refine blk_alloc ?_ _)); exact BK428.out) k_ hn_)))) (below_size (by repeat (first | (with_reducible first | exact HB.out | apply below_alloc | apply pw_below_drewN | apply below_drew1 | refine below_set ?_ GE428.out) | exact HB.out)))); have n1_ := Aside0.mk (blk_below (g := gb428) (o := .cells #[.bool a1_0, .slice A1_1 l1_1.length c1_1, .int .i64 a1_2, .int .i64 a1_3] 25 (0, 0)) (by (with_reducible repeat (first | refine blk_drewN ?_ _ | refine blk_drew ?_ | refine blk_alloc ?_ _)); exact BK428.out) hb); have n2_ := Aside0.mk (below_step (by repeat (first | (with_reducible first | exact HB.out | apply below_alloc | apply pw_below_drewN | apply below_drew1 | refine below_set ?_ GE428.out) | exact HB.out)) hb); clear BK428; clear HB; have HO433 := n0_; have BK428 := n1_; have HB := n2_; clear n0_ n1_ n2_; (try clear hb); (try clear hb2); (try clear hk); (try clear hi); (try clear ho0); have hcz106_0 : w105.cell? ⟨gb428, 0, none⟩ = some (.bool a1_0) := (blk_cell BK428.out 0).trans rfl; have hcz106_1 : w105.cell? ⟨gb428, 1, none⟩ = some (.slice A1_1 l1_1.length c1_1) := (blk_cell BK428.out 1).trans rfl; have hcz106_2 : w105.cell? ⟨gb428, 2, none⟩ = some (.int .i64 a1_2) := (blk_cell BK428.out 2).trans rfl; have hcz106_3 : w105.cell? ⟨gb428, 3, none⟩ = some (.int .i64 a1_3) := (blk_cell BK428.out 3).trans rfl; have hfz106_0 := blk_frozen BK428.out 0; have hfz106_1 := blk_frozen BK428.out 1; have hfz106_2 := blk_frozen BK428.out 2; have hfz106_3 := blk_frozen BK428.out 3; obtain ⟨Ao107, co107, eo107⟩ := Kd.V_slice HO433.out; subst eo107) | ((with_reducible refine gate_callee (f := 23) rfl ?_); refine goesL_ (some 18) rfl rfl Tryd.func23 (by kernel_rfl) rfl #[.int .i64 a0] rfl (by (try simp only [List.map_toArray, List.map_cons, List.map_nil]); first | done | rfl | (simp only [List.length_drop, List.length_take]; rfl)) ?_; (with_reducible refine (forms_Of.calls a0 t436 t437 t438 t439 t440 t441 t442 t443 _ ?side1 A5.out).mono ?_); (case side1 => exact Glob.below HG.out (by repeat (first | (with_reducible first | exact HB.out | apply below_alloc | apply pw_below_drewN | apply below_drew1 | refine below_set ?_ GE428.out) | exact HB.out))); rintro e w108 ⟨rfl, hb⟩; refine ⟨_, rfl, ?_⟩; have n0_ := Aside0.mk (Kd.V_below (by (with_reducible repeat (first | apply Kd.V_alloc | apply Kd.V_drewN | apply Kd.V_drew)); exact (Kd.V_mono (Kd.V_far (p := ⟨gb428, 3, none⟩) (Kd.V_far (p := ⟨gb428, 2, none⟩) (Kd.V_far (p := ⟨gb428, 1, none⟩) (Kd.V_far (p := ⟨gb428, 0, none⟩) (Kd.V_mono HO433.out (fun k_ hk => (⟨hk, hk⟩ : _ ∧ k_ ≠ gb428))) (fun _ hk => hk.2) (.bool t430)) (fun _ hk => hk.2) (.slice Ao107 t431.length co107)) (fun _ hk => hk.2) (.int .i64 t434)) (fun _ hk => hk.2) (.int .i64 t435)) (fun _ h_ => h_.1))) hb); have n1_ := Aside0.mk (blk_below (g := gb428) (o := .cells #[.bool t430, .slice Ao107 t431.length co107, .int .i64 t434, .int .i64 t435] 25 (0, 0)) (by (with_reducible repeat (first | refine blk_drewN ?_ _ | refine blk_drew ?_ | refine blk_alloc ?_ _)); refine blk_put (cs := #[.bool t430, .slice Ao107 t431.length co107, .int .i64 t434, .int .i64 a1_3]) ?_ 3 _ rfl; (with_reducible repeat (first | refine blk_drewN ?_ _ | refine blk_drew ?_ | refine blk_alloc ?_ _)); refine blk_put (cs := #[.bool t430, .slice Ao107 t431.length co107, .int .i64 a1_2, .int .i64 a1_3]) ?_ 2 _ rfl; (with_reducible repeat (first | refine blk_drewN ?_ _ | refine blk_drew ?_ | refine blk_alloc ?_ _)); refine blk_put (cs := #[.bool t430, .slice A1_1 l1_1.length c1_1, .int .i64 a1_2, .int .i64 a1_3]) ?_ 1 _ rfl; (with_reducible repeat (first | refine blk_drewN ?_ _ | refine blk_drew ?_ | refine blk_alloc ?_ _)); refine blk_put (cs := #[.bool a1_0, .slice A1_1 l1_1.length c1_1, .int .i64 a1_2, .int .i64 a1_3]) ?_ 0 _ rfl; (with_reducible repeat (first | refine blk_drewN ?_ _ | refine blk_drew ?_ | refine blk_alloc ?_ _)); exact BK428.out) hb); have n2_ := Aside0.mk (below_step (by repeat (first | (with_reducible first | exact HB.out | apply below_alloc | apply pw_below_drewN | apply below_drew1 | refine below_set ?_ GE428.out) | exact HB.out)) hb); clear HO433; clear BK428; clear HB; have HO433 := n0_; have BK428 := n1_; have HB := n2_; clear n0_ n1_ n2_; (try clear hb); (try clear hb2); (try clear hk); (try clear hi)) | ((with_reducible refine gate_dst (N := 6) rfl ?_); refine box_event ?hg (N := 6) ?hd (cs := #[.int .i64 0, .int .i64 0, .int .i64 0, .int .i64 0, .int .u64 0, .int .u64 0, .int .u64 0]) (t := 51) ?hr ?_; (case hd => rfl); (case hg => rfl); (case hr => first | (go_simp; done) | (go_simp; rfl)); intro gb444 hg w109 hbox hb; have n0_ := Aside0.mk (Kd.V_below (Kd.V_elderB (by (with_reducible repeat (first | apply Kd.V_alloc | apply Kd.V_drewN | apply Kd.V_drew)); exact HO433.out) gb444 (Nat.le_of_eq hg.symm)) hb); have n1_ := Aside0.mk (blk_below (g := gb428) (o := .cells #[.bool t430, .slice Ao107 t431.length co107, .int .i64 t434, .int .i64 t435] 25 (0, 0)) (by (with_reducible repeat (first | refine blk_drewN ?_ _ | refine blk_drew ?_ | refine blk_alloc ?_ _)); exact BK428.out) hb); have n2_ := Aside0.mk (below_step (by repeat (first | (with_reducible first | exact HB.out | apply below_alloc | apply pw_below_drewN | apply below_drew1 | refine below_set ?_ GE428.out) | exact HB.out)) hb); have n3_ := Aside0.mk (hbox); have n4_ := Aside0.mk ((by rw [hg]; exact (below_size (by repeat (first | (with_reducible first | exact HB.out | apply below_alloc | apply pw_below_drewN | apply below_drew1 | refine below_set ?_ GE428.out) | exact HB.out))) : w.heap.size ≤ gb444)); have n5_ := Aside0.mk ((by rw [hg]; exact (below_size (by repeat (first | (with_reducible first | exact HB.out | apply below_alloc | apply pw_below_drewN | apply below_drew1 | refine below_set ?_ GE428.out) | exact HB.out))) : w.heap.size ≤ gb444)); have n6_ := Aside0.mk ((by rw [hg]; exact Nat.ne_of_lt (blk_lt (g := gb428) (o := .cells #[.bool t430, .slice Ao107 t431.length co107, .int .i64 t434, .int .i64 t435] 25 (0, 0)) (by (with_reducible repeat (first | refine blk_drewN ?_ _ | refine blk_drew ?_ | refine blk_alloc ?_ _)); exact BK428.out)) : gb428 ≠ gb444)); have n7_ := Aside0.mk ((by rw [hg]; exact Nat.ne_of_gt (blk_lt (g := gb428) (o := .cells #[.bool t430, .slice Ao107 t431.length co107, .int .i64 t434, .int .i64 t435] 25 (0, 0)) (by (with_reducible repeat (first | refine blk_drewN ?_ _ | refine blk_drew ?_ | refine blk_alloc ?_ _)); exact BK428.out)) : gb444 ≠ gb428)); clear HO433; clear BK428; clear HB; have HO433 := n0_; have BK428 := n1_; have HB := n2_; have BK444 := n3_; have GW444 := n4_; have GE444 := n5_; have NB428_444 := n6_; have NB444_428 := n7_; clear n0_ n1_ n2_ n3_ n4_ n5_ n6_ n7_; clear hb hbox hg; have hnb110 := NB444_428.out; have hnc110 := NB428_444.out; have hcz111_0 : w109.cell? ⟨gb444, 0, none⟩ = some (.int .i64 0) := (blk_cell BK444.out 0).trans rfl; have hcz111_1 : w109.cell? ⟨gb444, 1, none⟩ = some (.int .i64 0) := (blk_cell BK444.out 1).trans rfl; have hcz111_2 : w109.cell? ⟨gb444, 2, none⟩ = some (.int .i64 0) := (blk_cell BK444.out 2).trans rfl; have hcz111_3 : w109.cell? ⟨gb444, 3, none⟩ = some (.int .i64 0) := (blk_cell BK444.out 3).trans rfl; have hcz111_4 : w109.cell? ⟨gb444, 4, none⟩ = some (.int .u64 0) := (blk_cell BK444.out 4).trans rfl; have hcz111_5 : w109.cell? ⟨gb444, 5, none⟩ = some (.int .u64 0) := (blk_cell BK444.out 5).trans rfl; have hcz111_6 : w109.cell? ⟨gb444, 6, none⟩ = some (.int .u64 0) := (blk_cell BK444.out 6).trans rfl; have hfz111_0 := blk_frozen BK444.out 0; have hfz111_1 := blk_frozen BK444.out 1; have hfz111_2 := blk_frozen BK444.out 2; have hfz111_3 := blk_frozen BK444.out 3; have hfz111_4 := blk_frozen BK444.out 4; have hfz111_5 := blk_frozen BK444.out 5; have hfz111_6 := blk_frozen BK444.out 6; have hcz112_0 : w109.cell? ⟨gb428, 0, none⟩ = some (.bool t430) := (blk_cell BK428.out 0).trans rfl; have hcz112_1 : w109.cell? ⟨gb428, 1, none⟩ = some (.slice Ao107 t431.length co107) := (blk_cell BK428.out 1).trans rfl; have hcz112_2 : w109.cell? ⟨gb428, 2, none⟩ = some (.int .i64 t434) := (blk_cell BK428.out 2).trans rfl; have hcz112_3 : w109.cell? ⟨gb428, 3, none⟩ = some (.int .i64 t435) := (blk_cell BK428.out 3).trans rfl; have hfz112_0 := blk_frozen BK428.out 0; have hfz112_1 := blk_frozen BK428.out 1; have hfz112_2 := blk_frozen BK428.out 2; have hfz112_3 := blk_frozen BK428.out 3) | ((with_reducible refine gate_callee (f := 13) rfl ?_); refine goesL_ (some 24) rfl rfl Tryd.func13 (by kernel_rfl) rfl #[.int .i64 a0, .int .i64 1, .agg #[.bool t430, .slice Ao107 t431.length co107, .int .i64 t434, .int .i64 t435]] rfl (by (try simp only [List.map_toArray, List.map_cons, List.map_nil]); first | done | rfl | (simp only [List.length_drop, List.length_take]; rfl)) ?_; (with_reducible refine (round_Round.calls k a0 1 t430 _ _ t431 t434 t435 t445 t446 _ ?side3 ?side1 ?side2 A6.out).mono ?_); (case side1 => refine (Kd.V_reads' (e := 28) (base := w.heap.size) (ok := fun k_ => (k_ ≠ gb428 ∧ k_ ≠ gb444)) (n := t431.length) (c := co107) ?_).2.2; exact (by (with_reducible repeat (first | apply Kd.V_alloc | apply Kd.V_drewN | apply Kd.V_drew)); exact (Kd.V_mono (Kd.V_far (p := ⟨gb444, 6, none⟩) (Kd.V_far (p := ⟨gb444, 5, none⟩) (Kd.V_far (p := ⟨gb444, 4, none⟩) (Kd.V_far (p := ⟨gb444, 3, none⟩) (Kd.V_far (p := ⟨gb444, 2, none⟩) (Kd.V_far (p := ⟨gb444, 1, none⟩) (Kd.V_far (p := ⟨gb444, 0, none⟩) (Kd.V_mono HO433.out (fun k_ hk => (⟨hk, hk.2⟩ : _ ∧ k_ ≠ gb444))) (fun _ hk => hk.2) (.int .i64 t436)) (fun _ hk => hk.2) (.int .i64 t437)) (fun _ hk => hk.2) (.int .i64 t438)) (fun _ hk => hk.2) (.int .i64 t439)) (fun _ hk => hk.2) (.int .u64 t440)) (fun _ hk => hk.2) (.int .u64 t441)) (fun _ hk => hk.2) (.int .u64 t442)) (fun _ h_ => h_.1)))); (case side2 => exact (Kd.V_reads' HO433.out).2.1); (case side3 => exact Glob.below HG.out (by repeat (first | (with_reducible first | exact HB.out | apply below_alloc | apply pw_below_drewN | apply below_drew1 | refine below_set ?_ GE428.out | refine below_set ?_ GE444.out) | exact HB.out))); rintro e w113 ⟨rfl, hb⟩; refine ⟨_, rfl, ?_⟩; have n0_ := Aside0.mk (Kd.V_below (by (with_reducible repeat (first | apply Kd.V_alloc | apply Kd.V_drewN | apply Kd.V_drew)); exact (Kd.V_mono (Kd.V_far (p := ⟨gb444, 6, none⟩) (Kd.V_far (p := ⟨gb444, 5, none⟩) (Kd.V_far (p := ⟨gb444, 4, none⟩) (Kd.V_far (p := ⟨gb444, 3, none⟩) (Kd.V_far (p := ⟨gb444, 2, none⟩) (Kd.V_far (p := ⟨gb444, 1, none⟩) (Kd.V_far (p := ⟨gb444, 0, none⟩) (Kd.V_mono HO433.out (fun k_ hk => (⟨hk, hk.2⟩ : _ ∧ k_ ≠ gb444))) (fun _ hk => hk.2) (.int .i64 t436)) (fun _ hk => hk.2) (.int .i64 t437)) (fun _ hk => hk.2) (.int .i64 t438)) (fun _ hk => hk.2) (.int .i64 t439)) (fun _ hk => hk.2) (.int .u64 t440)) (fun _ hk => hk.2) (.int .u64 t441)) (fun _ hk => hk.2) (.int .u64 t442)) (fun _ h_ => h_.1))) hb); have n1_ := Aside0.mk (blk_below (g := gb428) (o := .cells #[.bool t430, .slice Ao107 t431.length co107, .int .i64 t434, .int .i64 t435] 25 (0, 0)) (by (with_reducible repeat (first | refine blk_drewN ?_ _ | refine blk_drew ?_ | refine blk_alloc ?_ _)); refine blk_far ?_ NB428_444.out _; (with_reducible repeat (first | refine blk_drewN ?_ _ | refine blk_drew ?_ | refine blk_alloc ?_ _)); refine blk_far ?_ NB428_444.out _; (with_reducible repeat (first | refine blk_drewN ?_ _ | refine blk_drew ?_ | refine blk_alloc ?_ _)); refine blk_far ?_ NB428_444.out _; (with_reducible repeat (first | refine blk_drewN ?_ _ | refine blk_drew ?_ | refine blk_alloc ?_ _)); refine blk_far ?_ NB428_444.out _; (with_reducible repeat (first | refine blk_drewN ?_ _ | refine blk_drew ?_ | refine blk_alloc ?_ _)); refine blk_far ?_ NB428_444.out _; (with_reducible repeat (first | refine blk_drewN ?_ _ | refine blk_drew ?_ | refine blk_alloc ?_ _)); refine blk_far ?_ NB428_444.out _; (with_reducible repeat (first | refine blk_drewN ?_ _ | refine blk_drew ?_ | refine blk_alloc ?_ _)); refine blk_far ?_ NB428_444.out _; (with_reducible repeat (first | refine blk_drewN ?_ _ | refine blk_drew ?_ | refine blk_alloc ?_ _)); exact BK428.out) hb); have n2_ := Aside0.mk (blk_below (g := gb444) (o := .cells #[.int .i64 t436, .int .i64 t437, .int .i64 t438, .int .i64 t439, .int .u64 t440, .int .u64 t441, .int .u64 t442] 51 (0, 0)) (by (with_reducible repeat (first | refine blk_drewN ?_ _ | refine blk_drew ?_ | refine blk_alloc ?_ _)); refine blk_put (cs := #[.int .i64 t436, .int .i64 t437, .int .i64 t438, .int .i64 t439, .int .u64 t440, .int .u64 t441, .int .u64 0]) ?_ 6 _ rfl; (with_reducible repeat (first | refine blk_drewN ?_ _ | refine blk_drew ?_ | refine blk_alloc ?_ _)); refine blk_put (cs := #[.int .i64 t436, .int .i64 t437, .int .i64 t438, .int .i64 t439, .int .u64 t440, .int .u64 0, .int .u64 0]) ?_ 5 _ rfl; (with_reducible repeat (first | refine blk_drewN ?_ _ | refine blk_drew ?_ | refine blk_alloc ?_ _)); refine blk_put (cs := #[.int .i64 t436, .int .i64 t437, .int .i64 t438, .int .i64 t439, .int .u64 0, .int .u64 0, .int .u64 0]) ?_ 4 _ rfl; (with_reducible repeat (first | refine blk_drewN ?_ _ | refine blk_drew ?_ | refine blk_alloc ?_ _)); refine blk_put (cs := #[.int .i64 t436, .int .i64 t437, .int .i64 t438, .int .i64 0, .int .u64 0, .int .u64 0, .int .u64 0]) ?_ 3 _ rfl; (with_reducible repeat (first | refine blk_drewN ?_ _ | refine blk_drew ?_ | refine blk_alloc ?_ _)); refine blk_put (cs := #[.int .i64 t436, .int .i64 t437, .int .i64 0, .int .i64 0, .int .u64 0, .int .u64 0, .int .u64 0]) ?_ 2 _ rfl; (with_reducible repeat (first | refine blk_drewN ?_ _ | refine blk_drew ?_ | refine blk_alloc ?_ _)); refine blk_put (cs := #[.int .i64 t436, .int .i64 0, .int .i64 0, .int .i64 0, .int .u64 0, .int .u64 0, .int .u64 0]) ?_ 1 _ rfl; (with_reducible repeat (first | refine blk_drewN ?_ _ | refine blk_drew ?_ | refine blk_alloc ?_ _)); refine blk_put (cs := #[.int .i64 0, .int .i64 0, .int .i64 0, .int .i64 0, .int .u64 0, .int .u64 0, .int .u64 0]) ?_ 0 _ rfl; (with_reducible repeat (first | refine blk_drewN ?_ _ | refine blk_drew ?_ | refine blk_alloc ?_ _)); exact BK444.out) hb); have n3_ := Aside0.mk (below_step (by repeat (first | (with_reducible first | exact HB.out | apply below_alloc | apply pw_below_drewN | apply below_drew1 | refine below_set ?_ GE428.out | refine below_set ?_ GE444.out) | exact HB.out)) hb); clear HO433; clear BK428; clear BK444; clear HB; have HO433 := n0_; have BK428 := n1_; have BK444 := n2_; have HB := n3_; clear n0_ n1_ n2_ n3_; (try clear hb); (try clear hb2); (try clear hk); (try clear hi)))
      go_ret
      exact ⟨by first | rfl | (simp [errW_none, errW_some] <;> rfl) | (simp [*, errW_none, errW_some] <;> rfl), by repeat (first | (with_reducible first | exact HB.out | apply below_alloc | apply pw_below_drewN | apply below_drew1 | refine below_set ?_ GE428.out | refine below_set ?_ GE444.out) | exact HB.out)⟩

end Go.Proofs.YtmcodbgbjjldnaaDoor.Pr
