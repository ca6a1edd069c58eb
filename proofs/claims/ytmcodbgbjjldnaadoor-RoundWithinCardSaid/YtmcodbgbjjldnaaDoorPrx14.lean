import Derived.Test.YtmcodbgbjjldnaaDoorPrx0
import Derived.Test.YtmcodbgbjjldnaaDoorPrx3
import Derived.Test.YtmcodbgbjjldnaaDoorPrx13
import Derived.Test.YtmcodbgbjjldnaaDoorGivA
import Derived.Test.YtmcodbgbjjldnaaDoorGivG
namespace Go.Proofs.YtmcodbgbjjldnaaDoor.Pr
open Go.RowKit Go.Proofs.YtmcodbgbjjldnaaDoorW.PrintWords Go.Proofs.YtmcodbgbjjldnaaDoorW.PrintLast Go.Proofs.YtmcodbgbjjldnaaDoorW.PrintMore
attribute [local go_sem] max2_int min2_int max_two min_two max_three min_three max_four min_four   -- for this text's walks alone
set_option linter.unusedVariables false
set_option linter.unusedSimpArgs false

mutual
def round_Round.j1 : Nat → Int → Int → Bool → List Int → Int → Int → Int → Int → Int → Int → Int → Int → Int → Option (Int × Int)
  | 0, _, _, _, _, _, _, _, _, _, _, _, _, _ => none
  | k + 1, x0, x1, x304000, x304001, x304002, x304003, x313000, x313001, x313002, x313003, x313004, x313005, x313006 => (round_Nearest.f k x0 x304000 x304000 x304001 x304002 x304003).bind fun bt316 => (if bt316.2.2 = 0 then (if bt316.2.1 = true then ((round_large.f k x313000 x313001 x313002 x313003 x313004 x313005 x313006 x0 x1 x304000).bind fun t319 => (some (t319, 0))) else ((value_Pattern.f x0 x304000 bt316.1).bind fun bt320 => (some (bt320.1, bt320.2)))) else (some (0, bt316.2.2)))
def round_Round.j0 : Nat → Int → Int → Bool → Bool → List Int → Int → Int → Int → Int → Int → Int → Int → Int → Int → Option (Int × Int)
  | 0, _, _, _, _, _, _, _, _, _, _, _, _, _, _ => none
  | k + 1, x0, x1, x21, x304000, x304001, x304002, x304003, x313000, x313001, x313002, x313003, x313004, x313005, x313006 => if x21 = true then (some (0, 1)) else (if x313000 = 4 then (if x304000 = true then (some (x313006, 0)) else ((round_zero.f x304000 x304001 x304002 x304003).bind fun t315 => (if t315 = true then (some (x313006, 0)) else (round_Round.j1 k x0 x1 x304000 x304001 x304002 x304003 x313000 x313001 x313002 x313003 x313004 x313005 x313006)))) else (round_Round.j1 k x0 x1 x304000 x304001 x304002 x304003 x313000 x313001 x313002 x313003 x313004 x313005 x313006))
end
def round_Round.f (k : Nat) (a0 : Int) (a1 : Int) (a2_0 : Bool) (l2_1 : List Int) (a2_2 : Int) (a2_3 : Int) : Option (Int × Int) := (forms_Of.f a0).bind fun bt304 => (if bt304.2.2.2.2.2.2.2 = 0 then (if a1 = 1 then ((exact_Right.f a2_0 l2_1 a2_2 a2_3).bind fun t313 => (round_Round.j0 k a0 a1 (!t313) a2_0 l2_1 a2_2 a2_3 bt304.1 bt304.2.1 bt304.2.2.1 bt304.2.2.2.1 bt304.2.2.2.2.1 bt304.2.2.2.2.2.1 bt304.2.2.2.2.2.2.1)) else (if a1 = 2 then ((exact_Right.f a2_0 l2_1 a2_2 a2_3).bind fun t314 => (round_Round.j0 k a0 a1 (!t314) a2_0 l2_1 a2_2 a2_3 bt304.1 bt304.2.1 bt304.2.2.1 bt304.2.2.2.1 bt304.2.2.2.2.1 bt304.2.2.2.2.2.1 bt304.2.2.2.2.2.2.1)) else (round_Round.j0 k a0 a1 true a2_0 l2_1 a2_2 a2_3 bt304.1 bt304.2.1 bt304.2.2.1 bt304.2.2.2.1 bt304.2.2.2.2.1 bt304.2.2.2.2.2.1 bt304.2.2.2.2.2.2.1))) else (some (0, bt304.2.2.2.2.2.2.2)))
set_option maxHeartbeats 8000000 in
set_option maxRecDepth 100000 in
theorem round_Round.calls (k : Nat) (a0 : Int) (a1 : Int) (a2_0 : Bool) (A2_1 : Option Addr) (c2_1 : Nat) (l2_1 : List Int) (a2_2 : Int) (a2_3 : Int) (r1 : Int) (r2 : Int) (w : World) (hG : Glob w) (hr2_1 : Kd.C (Kd.int .u64) w A2_1 l2_1.length l2_1) (hc2_1 : l2_1.length ≤ c2_1) (h : round_Round.f k a0 a1 a2_0 l2_1 a2_2 a2_3 = some (r1, r2)) :
    Calls Tryd.prog 13 #[.int .i64 a0, .int .i64 a1, .agg #[.bool a2_0, .slice A2_1 l2_1.length c2_1, .int .i64 a2_2, .int .i64 a2_3]] w fun e w' => e = .returned (.tuple #[.int .u64 r1, .int .i64 r2]) ∧ Below w.heap.size w w' := by
  have hu25 := Tryd.underlying25
  have hu51 := Tryd.underlying51
  have HR2_1 := Aside0.mk hr2_1
  have HC2_1 := Aside0.mk hc2_1
  clear hr2_1 hc2_1
  have HG := Aside0.mk hG
  clear hG
  have HB := Aside0.mk (Below.refl w.heap.size w)
  have H : ((forms_Of.f a0).bind fun bt304 => (if bt304.2.2.2.2.2.2.2 = 0 then (if a1 = 1 then ((exact_Right.f a2_0 l2_1 a2_2 a2_3).bind fun t313 => (round_Round.j0 k a0 a1 (!t313) a2_0 l2_1 a2_2 a2_3 bt304.1 bt304.2.1 bt304.2.2.1 bt304.2.2.2.1 bt304.2.2.2.2.1 bt304.2.2.2.2.2.1 bt304.2.2.2.2.2.2.1)) else (if a1 = 2 then ((exact_Right.f a2_0 l2_1 a2_2 a2_3).bind fun t314 => (round_Round.j0 k a0 a1 (!t314) a2_0 l2_1 a2_2 a2_3 bt304.1 bt304.2.1 bt304.2.2.1 bt304.2.2.2.1 bt304.2.2.2.2.1 bt304.2.2.2.2.2.1 bt304.2.2.2.2.2.2.1)) else (round_Round.j0 k a0 a1 true a2_0 l2_1 a2_2 a2_3 bt304.1 bt304.2.1 bt304.2.2.1 bt304.2.2.2.1 bt304.2.2.2.2.1 bt304.2.2.2.2.2.1 bt304.2.2.2.2.2.2.1))) else (some (0, bt304.2.2.2.2.2.2.2)))) = some (r1, r2) := h
  clear h
  replace H := Option.bind_eq_some_iff.mp H
  obtain ⟨⟨t304, t305, t306, t307, t308, t309, t310, t311⟩, A40, H⟩ := H
  replace H : (if t311 = 0 then (if a1 = 1 then ((exact_Right.f a2_0 l2_1 a2_2 a2_3).bind fun t313 => (round_Round.j0 k a0 a1 (!t313) a2_0 l2_1 a2_2 a2_3 t304 t305 t306 t307 t308 t309 t310)) else (if a1 = 2 then ((exact_Right.f a2_0 l2_1 a2_2 a2_3).bind fun t314 => (round_Round.j0 k a0 a1 (!t314) a2_0 l2_1 a2_2 a2_3 t304 t305 t306 t307 t308 t309 t310)) else (round_Round.j0 k a0 a1 true a2_0 l2_1 a2_2 a2_3 t304 t305 t306 t307 t308 t309 t310))) else (some (0, t311))) = some (r1, r2) := H
  have A4 := Aside0.mk A40
  clear A40
  have HC5 := Aside0.mk H
  clear H
  go_enter Tryd.func13, Tryd.ntmps13
  go_upto_block 0 with (first | ((with_reducible refine gate_dst (N := 5) rfl ?_); refine box_event ?hg (N := 5) ?hd (cs := #[.bool a2_0, .slice A2_1 l2_1.length c2_1, .int .i64 a2_2, .int .i64 a2_3]) (t := 25) ?hr ?_; (case hd => rfl); (case hg => rfl); (case hr => first | (go_simp; done) | (go_simp; rfl)); intro gb303 hg w6 hbox hb; have n0_ := Aside0.mk (below_step (by repeat (first | (with_reducible first | exact HB.out | apply below_alloc | apply pw_below_drewN | apply below_drew1) | exact HB.out)) hb); have n1_ := Aside0.mk (hbox); have n2_ := Aside0.mk ((by rw [hg]; exact (below_size (by repeat (first | (with_reducible first | exact HB.out | apply below_alloc | apply pw_below_drewN | apply below_drew1) | exact HB.out))) : w.heap.size ≤ gb303)); have n3_ := Aside0.mk ((by rw [hg]; exact (below_size (by repeat (first | (with_reducible first | exact HB.out | apply below_alloc | apply pw_below_drewN | apply below_drew1) | exact HB.out))) : w.heap.size ≤ gb303)); clear HB; have HB := n0_; have BK303 := n1_; have GW303 := n2_; have GE303 := n3_; clear n0_ n1_ n2_ n3_; clear hb hbox hg) | ((with_reducible refine gate_callee (f := 23) rfl ?_); refine goesL_ (some 14) rfl rfl Tryd.func23 (by kernel_rfl) rfl #[.int .i64 a0] rfl (by (try simp only [List.map_toArray, List.map_cons, List.map_nil]); first | done | rfl | (simp only [List.length_drop, List.length_take]; rfl)) ?_; (with_reducible refine (forms_Of.calls a0 t304 t305 t306 t307 t308 t309 t310 t311 _ ?side1 A4.out).mono ?_); (case side1 => exact Glob.below HG.out (by repeat (first | (with_reducible first | exact HB.out | apply below_alloc | apply pw_below_drewN | apply below_drew1 | refine below_set ?_ GE303.out) | exact HB.out))); rintro e w7 ⟨rfl, hb⟩; refine ⟨_, rfl, ?_⟩; have n0_ := Aside0.mk (blk_below (g := gb303) (o := .cells #[.bool a2_0, .slice A2_1 l2_1.length c2_1, .int .i64 a2_2, .int .i64 a2_3] 25 (0, 0)) (by (with_reducible repeat (first | refine blk_drewN ?_ _ | refine blk_drew ?_ | refine blk_alloc ?_ _)); exact BK303.out) hb); have n1_ := Aside0.mk (below_step (by repeat (first | (with_reducible first | exact HB.out | apply below_alloc | apply pw_below_drewN | apply below_drew1 | refine below_set ?_ GE303.out) | exact HB.out)) hb); clear BK303; clear HB; have BK303 := n0_; have HB := n1_; clear n0_ n1_; (try clear hb); (try clear hb2); (try clear hk); (try clear hi)) | ((with_reducible refine gate_dst (N := 8) rfl ?_); refine box_event ?hg (N := 8) ?hd (cs := #[.int .i64 0, .int .i64 0, .int .i64 0, .int .i64 0, .int .u64 0, .int .u64 0, .int .u64 0]) (t := 51) ?hr ?_; (case hd => rfl); (case hg => rfl); (case hr => first | (go_simp; done) | (go_simp; rfl)); intro gb312 hg w8 hbox hb; have n0_ := Aside0.mk (blk_below (g := gb303) (o := .cells #[.bool a2_0, .slice A2_1 l2_1.length c2_1, .int .i64 a2_2, .int .i64 a2_3] 25 (0, 0)) (by (with_reducible repeat (first | refine blk_drewN ?_ _ | refine blk_drew ?_ | refine blk_alloc ?_ _)); exact BK303.out) hb); have n1_ := Aside0.mk (below_step (by repeat (first | (with_reducible first | exact HB.out | apply below_alloc | apply pw_below_drewN | apply below_drew1 | refine below_set ?_ GE303.out) | exact HB.out)) hb); have n2_ := Aside0.mk (hbox); have n3_ := Aside0.mk ((by rw [hg]; exact (below_size (by repeat (first | (with_reducible first | exact HB.out | apply below_alloc | apply pw_below_drewN | apply below_drew1 | refine below_set ?_ GE303.out) | exact HB.out))) : w.heap.size ≤ gb312)); have n4_ := Aside0.mk ((by rw [hg]; exact (below_size (by repeat (first | (with_reducible first | exact HB.out | apply below_alloc | apply pw_below_drewN | apply below_drew1 | refine below_set ?_ GE303.out) | exact HB.out))) : w.heap.size ≤ gb312)); have n5_ := Aside0.mk ((by rw [hg]; exact Nat.ne_of_lt (blk_lt (g := gb303) (o := .cells #[.bool a2_0, .slice A2_1 l2_1.length c2_1, .int .i64 a2_2, .int .i64 a2_3] 25 (0, 0)) (by (with_reducible repeat (first | refine blk_drewN ?_ _ | refine blk_drew ?_ | refine blk_alloc ?_ _)); exact BK303.out)) : gb303 ≠ gb312)); have n6_ := Aside0.mk ((by rw [hg]; exact Nat.ne_of_gt (blk_lt (g := gb303) (o := .cells #[.bool a2_0, .slice A2_1 l2_1.length c2_1, .int .i64 a2_2, .int .i64 a2_3] 25 (0, 0)) (by (with_reducible repeat (first | refine blk_drewN ?_ _ | refine blk_drew ?_ | refine blk_alloc ?_ _)); exact BK303.out)) : gb312 ≠ gb303)); clear BK303; clear HB; have BK303 := n0_; have HB := n1_; have BK312 := n2_; have GW312 := n3_; have GE312 := n4_; have NB303_312 := n5_; have NB312_303 := n6_; clear n0_ n1_ n2_ n3_ n4_ n5_ n6_; clear hb hbox hg; have hnb9 := NB312_303.out; have hnc9 := NB303_312.out; have hcz10_0 : w8.cell? ⟨gb312, 0, none⟩ = some (.int .i64 0) := (blk_cell BK312.out 0).trans rfl; have hcz10_1 : w8.cell? ⟨gb312, 1, none⟩ = some (.int .i64 0) := (blk_cell BK312.out 1).trans rfl; have hcz10_2 : w8.cell? ⟨gb312, 2, none⟩ = some (.int .i64 0) := (blk_cell BK312.out 2).trans rfl; have hcz10_3 : w8.cell? ⟨gb312, 3, none⟩ = some (.int .i64 0) := (blk_cell BK312.out 3).trans rfl; have hcz10_4 : w8.cell? ⟨gb312, 4, none⟩ = some (.int .u64 0) := (blk_cell BK312.out 4).trans rfl; have hcz10_5 : w8.cell? ⟨gb312, 5, none⟩ = some (.int .u64 0) := (blk_cell BK312.out 5).trans rfl; have hcz10_6 : w8.cell? ⟨gb312, 6, none⟩ = some (.int .u64 0) := (blk_cell BK312.out 6).trans rfl; have hfz10_0 := blk_frozen BK312.out 0; have hfz10_1 := blk_frozen BK312.out 1; have hfz10_2 := blk_frozen BK312.out 2; have hfz10_3 := blk_frozen BK312.out 3; have hfz10_4 := blk_frozen BK312.out 4; have hfz10_5 := blk_frozen BK312.out 5; have hfz10_6 := blk_frozen BK312.out 6))
  (try simp only [Act.put, List.setIfInBounds_toArray, List.set_cons_zero, List.set_cons_succ])
  go_cut [] (fun wc => ∃ (kq : Nat), Aside0 (round_Round.j1 kq a0 a1 a2_0 l2_1 a2_2 a2_3 t304 t305 t306 t307 t308 t309 t310 = some (r1, r2)) ∧ Aside0 (kq ≤ k) ∧ Aside0 (wc.heap[gb303]? = some (.cells #[.bool a2_0, (.slice A2_1 l2_1.length c2_1), .int .i64 a2_2, .int .i64 a2_3] 25 (0, 0))) ∧ Aside0 (wc.heap[gb312]? = some (.cells #[.int .i64 t304, .int .i64 t305, .int .i64 t306, .int .i64 t307, .int .u64 t308, .int .u64 t309, .int .u64 t310] 51 (0, 0))) ∧ Aside0 (Below w.heap.size w wc))
  case first =>
    have H := HC5.out
    clear HC5
    by_cases c11 : t311 = 0
    · rw [if_pos c11] at H
      have c11b0 : (t311 == 0) = true := beq_iff_eq.mpr c11
      have c11b1 : (t311 != 0) = false := bne_eq_false_iff_eq.mpr c11
      clear c11
      (first | rw [c11b0] | (simp only [i64_w, i32_w]; rw [c11b0]) | skip)
      have HC12 := Aside0.mk H
      clear H
      go_upto_region 4 with (fail)
      go_cut [21] (fun v21 wc => ∃ (kq : Nat) (x21_11 : Bool), v21 = .bool x21_11 ∧ Aside0 (round_Round.j0 kq a0 a1 x21_11 a2_0 l2_1 a2_2 a2_3 t304 t305 t306 t307 t308 t309 t310 = some (r1, r2)) ∧ Aside0 (kq ≤ k) ∧ Aside0 (wc.heap[gb303]? = some (.cells #[.bool a2_0, (.slice A2_1 l2_1.length c2_1), .int .i64 a2_2, .int .i64 a2_3] 25 (0, 0))) ∧ Aside0 (wc.heap[gb312]? = some (.cells #[.int .i64 t304, .int .i64 t305, .int .i64 t306, .int .i64 t307, .int .u64 t308, .int .u64 t309, .int .u64 t310] 51 (0, 0))) ∧ Aside0 (Below w.heap.size w wc))
      case first =>
        have H := HC12.out
        clear HC12
        by_cases c13 : a1 = 1
        · rw [if_pos c13] at H
          have c13b0 : (a1 == 1) = true := beq_iff_eq.mpr c13
          have c13b1 : (a1 != 1) = false := bne_eq_false_iff_eq.mpr c13
          clear c13
          (first | rw [c13b0] | (simp only [i64_w, i32_w]; rw [c13b0]) | skip)
          replace H := Option.bind_eq_some_iff.mp H
          obtain ⟨t313, A140, H⟩ := H
          replace H : (round_Round.j0 k a0 a1 (!t313) a2_0 l2_1 a2_2 a2_3 t304 t305 t306 t307 t308 t309 t310) = some (r1, r2) := H
          have A14 := Aside0.mk A140
          clear A140
          have H' := Aside0.mk H
          clear H
          have hnb15 := NB303_312.out
          have hnc15 := NB312_303.out
          have hcz16_0 : w8.cell? ⟨gb303, 0, none⟩ = some (.bool a2_0) := (blk_cell BK303.out 0).trans rfl
          have hcz16_1 : w8.cell? ⟨gb303, 1, none⟩ = some (.slice A2_1 l2_1.length c2_1) := (blk_cell BK303.out 1).trans rfl
          have hcz16_2 : w8.cell? ⟨gb303, 2, none⟩ = some (.int .i64 a2_2) := (blk_cell BK303.out 2).trans rfl
          have hcz16_3 : w8.cell? ⟨gb303, 3, none⟩ = some (.int .i64 a2_3) := (blk_cell BK303.out 3).trans rfl
          have hfz16_0 := blk_frozen BK303.out 0
          have hfz16_1 := blk_frozen BK303.out 1
          have hfz16_2 := blk_frozen BK303.out 2
          have hfz16_3 := blk_frozen BK303.out 3
          go_wp2_with (first | (go_at_call 32; (with_reducible refine (exact_Right.calls a2_0 _ _ l2_1 a2_2 a2_3 t313 _ ?side1 ?side2 A14.out).mono ?_); (case side1 => exact Kd.C_below HR2_1.out (by repeat (first | (with_reducible first | exact HB.out | apply below_alloc | apply pw_below_drewN | apply below_drew1 | refine below_set ?_ GE303.out | refine below_set ?_ GE312.out) | exact HB.out))); (case side2 => exact HC2_1.out); rintro e w17 ⟨rfl, hb⟩; have n0_ := Aside0.mk (blk_below (g := gb303) (o := .cells #[.bool a2_0, .slice A2_1 l2_1.length c2_1, .int .i64 a2_2, .int .i64 a2_3] 25 (0, 0)) (by (with_reducible repeat (first | refine blk_drewN ?_ _ | refine blk_drew ?_ | refine blk_alloc ?_ _)); refine blk_far ?_ NB303_312.out _; (with_reducible repeat (first | refine blk_drewN ?_ _ | refine blk_drew ?_ | refine blk_alloc ?_ _)); refine blk_far ?_ NB303_312.out _; (with_reducible repeat (first | refine blk_drewN ?_ _ | refine blk_drew ?_ | refine blk_alloc ?_ _)); refine blk_far ?_ NB303_312.out _; (with_reducible repeat (first | refine blk_drewN ?_ _ | refine blk_drew ?_ | refine blk_alloc ?_ _)); refine blk_far ?_ NB303_312.out _; (with_reducible repeat (first | refine blk_drewN ?_ _ | refine blk_drew ?_ | refine blk_alloc ?_ _)); refine blk_far ?_ NB303_312.out _; (with_reducible repeat (first | refine blk_drewN ?_ _ | refine blk_drew ?_ | refine blk_alloc ?_ _)); refine blk_far ?_ NB303_312.out _; (with_reducible repeat (first | refine blk_drewN ?_ _ | refine blk_drew ?_ | refine blk_alloc ?_ _)); refine blk_far ?_ NB303_312.out _; (with_reducible repeat (first | refine blk_drewN ?_ _ | refine blk_drew ?_ | refine blk_alloc ?_ _)); exact BK303.out) hb); have n1_ := Aside0.mk (blk_below (g := gb312) (o := .cells #[.int .i64 t304, .int .i64 t305, .int .i64 t306, .int .i64 t307, .int .u64 t308, .int .u64 t309, .int .u64 t310] 51 (0, 0)) (by (with_reducible repeat (first | refine blk_drewN ?_ _ | refine blk_drew ?_ | refine blk_alloc ?_ _)); refine blk_put (cs := #[.int .i64 t304, .int .i64 t305, .int .i64 t306, .int .i64 t307, .int .u64 t308, .int .u64 t309, .int .u64 0]) ?_ 6 _ rfl; (with_reducible repeat (first | refine blk_drewN ?_ _ | refine blk_drew ?_ | refine blk_alloc ?_ _)); refine blk_put (cs := #[.int .i64 t304, .int .i64 t305, .int .i64 t306, .int .i64 t307, .int .u64 t308, .int .u64 0, .int .u64 0]) ?_ 5 _ rfl; (with_reducible repeat (first | refine blk_drewN ?_ _ | refine blk_drew ?_ | refine blk_alloc ?_ _)); refine blk_put (cs := #[.int .i64 t304, .int .i64 t305, .int .i64 t306, .int .i64 t307, .int .u64 0, .int .u64 0, .int .u64 0]) ?_ 4 _ rfl; (with_reducible repeat (first | refine blk_drewN ?_ _ | refine blk_drew ?_ | refine blk_alloc ?_ _)); refine blk_put (cs := #[.int .i64 t304, .int .i64 t305, .int .i64 t306, .int .i64 0, .int .u64 0, .int .u64 0, .int .u64 0]) ?_ 3 _ rfl; (with_reducible repeat (first | refine blk_drewN ?_ _ | refine blk_drew ?_ | refine blk_alloc ?_ _)); refine blk_put (cs := #[.int .i64 t304, .int .i64 t305, .int .i64 0, .int .i64 0, .int .u64 0, .int .u64 0, .int .u64 0]) ?_ 2 _ rfl; (with_reducible repeat (first | refine blk_drewN ?_ _ | refine blk_drew ?_ | refine blk_alloc ?_ _)); refine blk_put (cs := #[.int .i64 t304, .int .i64 0, .int .i64 0, .int .i64 0, .int .u64 0, .int .u64 0, .int .u64 0]) ?_ 1 _ rfl; (with_reducible repeat (first | refine blk_drewN ?_ _ | refine blk_drew ?_ | refine blk_alloc ?_ _)); refine blk_put (cs := #[.int .i64 0, .int .i64 0, .int .i64 0, .int .i64 0, .int .u64 0, .int .u64 0, .int .u64 0]) ?_ 0 _ rfl; (with_reducible repeat (first | refine blk_drewN ?_ _ | refine blk_drew ?_ | refine blk_alloc ?_ _)); exact BK312.out) hb); have n2_ := Aside0.mk (below_step (by repeat (first | (with_reducible first | exact HB.out | apply below_alloc | apply pw_below_drewN | apply below_drew1 | refine below_set ?_ GE303.out | refine below_set ?_ GE312.out) | exact HB.out)) hb); clear BK303; clear BK312; clear HB; have BK303 := n0_; have BK312 := n1_; have HB := n2_; clear n0_ n1_ n2_; (try clear hb); (try clear hb2); (try clear hk); (try clear hi)))
          go_meet
          case rel => exact ⟨_, (!t313), (by first | rfl | (simp; done) | (simp [*]; done)), H', ⟨by first | omega | exact Nat.le_refl _⟩, ⟨by (with_reducible repeat (first | refine blk_drewN ?_ _ | refine blk_drew ?_ | refine blk_alloc ?_ _)); exact BK303.out⟩, ⟨by (with_reducible repeat (first | refine blk_drewN ?_ _ | refine blk_drew ?_ | refine blk_alloc ?_ _)); exact BK312.out⟩, ⟨by repeat (first | (with_reducible first | exact HB.out | apply below_alloc | apply pw_below_drewN | apply below_drew1 | refine below_set ?_ GE303.out | refine below_set ?_ GE312.out) | exact HB.out)⟩⟩
        · rw [if_neg c13] at H
          have c13b0 : (a1 == 1) = false := beq_eq_false_iff_ne.mpr c13
          have c13b1 : (a1 != 1) = true := bne_iff_ne.mpr c13
          (first | rw [c13b0] | (simp only [i64_w, i32_w]; rw [c13b0]) | skip)
          by_cases c18 : a1 = 2
          · rw [if_pos c18] at H
            have c18b0 : (a1 == 2) = true := beq_iff_eq.mpr c18
            have c18b1 : (a1 != 2) = false := bne_eq_false_iff_eq.mpr c18
            clear c18
            replace H := Option.bind_eq_some_iff.mp H
            obtain ⟨t314, A190, H⟩ := H
            replace H : (round_Round.j0 k a0 a1 (!t314) a2_0 l2_1 a2_2 a2_3 t304 t305 t306 t307 t308 t309 t310) = some (r1, r2) := H
            have A19 := Aside0.mk A190
            clear A190
            have H' := Aside0.mk H
            clear H
            have hnb20 := NB303_312.out
            have hnc20 := NB312_303.out
            have hcz21_0 : w8.cell? ⟨gb303, 0, none⟩ = some (.bool a2_0) := (blk_cell BK303.out 0).trans rfl
            have hcz21_1 : w8.cell? ⟨gb303, 1, none⟩ = some (.slice A2_1 l2_1.length c2_1) := (blk_cell BK303.out 1).trans rfl
            have hcz21_2 : w8.cell? ⟨gb303, 2, none⟩ = some (.int .i64 a2_2) := (blk_cell BK303.out 2).trans rfl
            have hcz21_3 : w8.cell? ⟨gb303, 3, none⟩ = some (.int .i64 a2_3) := (blk_cell BK303.out 3).trans rfl
            have hfz21_0 := blk_frozen BK303.out 0
            have hfz21_1 := blk_frozen BK303.out 1
            have hfz21_2 := blk_frozen BK303.out 2
            have hfz21_3 := blk_frozen BK303.out 3
            go_wp2_with (first | (go_at_call 32; (with_reducible refine (exact_Right.calls a2_0 _ _ l2_1 a2_2 a2_3 t314 _ ?side1 ?side2 A19.out).mono ?_); (case side1 => exact Kd.C_below HR2_1.out (by repeat (first | (with_reducible first | exact HB.out | apply below_alloc | apply pw_below_drewN | apply below_drew1 | refine below_set ?_ GE303.out | refine below_set ?_ GE312.out) | exact HB.out))); (case side2 => exact HC2_1.out); rintro e w22 ⟨rfl, hb⟩; have n0_ := Aside0.mk (blk_below (g := gb303) (o := .cells #[.bool a2_0, .slice A2_1 l2_1.length c2_1, .int .i64 a2_2, .int .i64 a2_3] 25 (0, 0)) (by (with_reducible repeat (first | refine blk_drewN ?_ _ | refine blk_drew ?_ | refine blk_alloc ?_ _)); refine blk_far ?_ NB303_312.out _; (with_reducible repeat (first | refine blk_drewN ?_ _ | refine blk_drew ?_ | refine blk_alloc ?_ _)); refine blk_far ?_ NB303_312.out _; (with_reducible repeat (first | refine blk_drewN ?_ _ | refine blk_drew ?_ | refine blk_alloc ?_ _)); refine blk_far ?_ NB303_312.out _; (with_reducible repeat (first | refine blk_drewN ?_ _ | refine blk_drew ?_ | refine blk_alloc ?_ _)); refine blk_far ?_ NB303_312.out _; (with_reducible repeat (first | refine blk_drewN ?_ _ | refine blk_drew ?_ | refine blk_alloc ?_ _)); refine blk_far ?_ NB303_312.out _; (with_reducible repeat (first | refine blk_drewN ?_ _ | refine blk_drew ?_ | refine blk_alloc ?_ _)); refine blk_far ?_ NB303_312.out _; (with_reducible repeat (first | refine blk_drewN ?_ _ | refine blk_drew ?_ | refine blk_alloc ?_ _)); refine blk_far ?_ NB303_312.out _; (with_reducible repeat (first | refine blk_drewN ?_ _ | refine blk_drew ?_ | refine blk_alloc ?_ _)); exact BK303.out) hb); have n1_ := Aside0.mk (blk_below (g := gb312) (o := .cells #[.int .i64 t304, .int .i64 t305, .int .i64 t306, .int .i64 t307, .int .u64 t308, .int .u64 t309, .int .u64 t310] 51 (0, 0)) (by (with_reducible repeat (first | refine blk_drewN ?_ _ | refine blk_drew ?_ | refine blk_alloc ?_ _)); refine blk_put (cs := #[.int .i64 t304, .int .i64 t305, .int .i64 t306, .int .i64 t307, .int .u64 t308, .int .u64 t309, .int .u64 0]) ?_ 6 _ rfl; (with_reducible repeat (first | refine blk_drewN ?_ _ | refine blk_drew ?_ | refine blk_alloc ?_ _)); refine blk_put (cs := #[.int .i64 t304, .int .i64 t305, .int .i64 t306, .int .i64 t307, .int .u64 t308, .int .u64 0, .int .u64 0]) ?_ 5 _ rfl; (with_reducible repeat (first | refine blk_drewN ?_ _ | refine blk_drew ?_ | refine blk_alloc ?_ _)); refine blk_put (cs := #[.int .i64 t304, .int .i64 t305, .int .i64 t306, .int .i64 t307, .int .u64 0, .int .u64 0, .int .u64 0]) ?_ 4 _ rfl; (with_reducible repeat (first | refine blk_drewN ?_ _ | refine blk_drew ?_ | refine blk_alloc ?_ _)); refine blk_put (cs := #[.int .i64 t304, .int .i64 t305, .int .i64 t306, .int .i64 0, .int .u64 0, .int .u64 0, .int .u64 0]) ?_ 3 _ rfl; (with_reducible repeat (first | refine blk_drewN ?_ _ | refine blk_drew ?_ | refine blk_alloc ?_ _)); refine blk_put (cs := #[.int .i64 t304, .int .i64 t305, .int .i64 0, .int .i64 0, .int .u64 0, .int .u64 0, .int .u64 0]) ?_ 2 _ rfl; (with_reducible repeat (first | refine blk_drewN ?_ _ | refine blk_drew ?_ | refine blk_alloc ?_ _)); refine blk_put (cs := #[.int .i64 t304, .int .i64 0, .int .i64 0, .int .i64 0, .int .u64 0, .int .u64 0, .int .u64 0]) ?_ 1 _ rfl; (with_reducible repeat (first | refine blk_drewN ?_ _ | refine blk_drew ?_ | refine blk_alloc ?_ _)); refine blk_put (cs := #[.int .i64 0, .int .i64 0, .int .i64 0, .int .i64 0, .int .u64 0, .int .u64 0, .int .u64 0]) ?_ 0 _ rfl; (with_reducible repeat (first | refine blk_drewN ?_ _ | refine blk_drew ?_ | refine blk_alloc ?_ _)); exact BK312.out) hb); have n2_ := Aside0.mk (below_step (by repeat (first | (with_reducible first | exact HB.out | apply below_alloc | apply pw_below_drewN | apply below_drew1 | refine below_set ?_ GE303.out | refine below_set ?_ GE312.out) | exact HB.out)) hb); clear BK303; clear BK312; clear HB; have BK303 := n0_; have BK312 := n1_; have HB := n2_; clear n0_ n1_ n2_; (try clear hb); (try clear hb2); (try clear hk); (try clear hi)))
            go_meet
            case rel => exact ⟨_, (!t314), (by first | rfl | (simp; done) | (simp [*]; done)), H', ⟨by first | omega | exact Nat.le_refl _⟩, ⟨by (with_reducible repeat (first | refine blk_drewN ?_ _ | refine blk_drew ?_ | refine blk_alloc ?_ _)); exact BK303.out⟩, ⟨by (with_reducible repeat (first | refine blk_drewN ?_ _ | refine blk_drew ?_ | refine blk_alloc ?_ _)); exact BK312.out⟩, ⟨by repeat (first | (with_reducible first | exact HB.out | apply below_alloc | apply pw_below_drewN | apply below_drew1 | refine below_set ?_ GE303.out | refine below_set ?_ GE312.out) | exact HB.out)⟩⟩
          · rw [if_neg c18] at H
            have c18b0 : (a1 == 2) = false := beq_eq_false_iff_ne.mpr c18
            have c18b1 : (a1 != 2) = true := bne_iff_ne.mpr c18
            have H' := Aside0.mk H
            clear H
            go_wp2
            go_meet
            case rel => exact ⟨_, (true), (by first | rfl | (simp; done) | (simp [*]; done)), H', ⟨by first | omega | exact Nat.le_refl _⟩, ⟨by (with_reducible repeat (first | refine blk_drewN ?_ _ | refine blk_drew ?_ | refine blk_alloc ?_ _)); refine blk_far ?_ NB303_312.out _; (with_reducible repeat (first | refine blk_drewN ?_ _ | refine blk_drew ?_ | refine blk_alloc ?_ _)); refine blk_far ?_ NB303_312.out _; (with_reducible repeat (first | refine blk_drewN ?_ _ | refine blk_drew ?_ | refine blk_alloc ?_ _)); refine blk_far ?_ NB303_312.out _; (with_reducible repeat (first | refine blk_drewN ?_ _ | refine blk_drew ?_ | refine blk_alloc ?_ _)); refine blk_far ?_ NB303_312.out _; (with_reducible repeat (first | refine blk_drewN ?_ _ | refine blk_drew ?_ | refine blk_alloc ?_ _)); refine blk_far ?_ NB303_312.out _; (with_reducible repeat (first | refine blk_drewN ?_ _ | refine blk_drew ?_ | refine blk_alloc ?_ _)); refine blk_far ?_ NB303_312.out _; (with_reducible repeat (first | refine blk_drewN ?_ _ | refine blk_drew ?_ | refine blk_alloc ?_ _)); refine blk_far ?_ NB303_312.out _; (with_reducible repeat (first | refine blk_drewN ?_ _ | refine blk_drew ?_ | refine blk_alloc ?_ _)); exact BK303.out⟩, ⟨by (with_reducible repeat (first | refine blk_drewN ?_ _ | refine blk_drew ?_ | refine blk_alloc ?_ _)); refine blk_put (cs := #[.int .i64 t304, .int .i64 t305, .int .i64 t306, .int .i64 t307, .int .u64 t308, .int .u64 t309, .int .u64 0]) ?_ 6 _ rfl; (with_reducible repeat (first | refine blk_drewN ?_ _ | refine blk_drew ?_ | refine blk_alloc ?_ _)); refine blk_put (cs := #[.int .i64 t304, .int .i64 t305, .int .i64 t306, .int .i64 t307, .int .u64 t308, .int .u64 0, .int .u64 0]) ?_ 5 _ rfl; (with_reducible repeat (first | refine blk_drewN ?_ _ | refine blk_drew ?_ | refine blk_alloc ?_ _)); refine blk_put (cs := #[.int .i64 t304, .int .i64 t305, .int .i64 t306, .int .i64 t307, .int .u64 0, .int .u64 0, .int .u64 0]) ?_ 4 _ rfl; (with_reducible repeat (first | refine blk_drewN ?_ _ | refine blk_drew ?_ | refine blk_alloc ?_ _)); refine blk_put (cs := #[.int .i64 t304, .int .i64 t305, .int .i64 t306, .int .i64 0, .int .u64 0, .int .u64 0, .int .u64 0]) ?_ 3 _ rfl; (with_reducible repeat (first | refine blk_drewN ?_ _ | refine blk_drew ?_ | refine blk_alloc ?_ _)); refine blk_put (cs := #[.int .i64 t304, .int .i64 t305, .int .i64 0, .int .i64 0, .int .u64 0, .int .u64 0, .int .u64 0]) ?_ 2 _ rfl; (with_reducible repeat (first | refine blk_drewN ?_ _ | refine blk_drew ?_ | refine blk_alloc ?_ _)); refine blk_put (cs := #[.int .i64 t304, .int .i64 0, .int .i64 0, .int .i64 0, .int .u64 0, .int .u64 0, .int .u64 0]) ?_ 1 _ rfl; (with_reducible repeat (first | refine blk_drewN ?_ _ | refine blk_drew ?_ | refine blk_alloc ?_ _)); refine blk_put (cs := #[.int .i64 0, .int .i64 0, .int .i64 0, .int .i64 0, .int .u64 0, .int .u64 0, .int .u64 0]) ?_ 0 _ rfl; (with_reducible repeat (first | refine blk_drewN ?_ _ | refine blk_drew ?_ | refine blk_alloc ?_ _)); exact BK312.out⟩, ⟨by repeat (first | (with_reducible first | exact HB.out | apply below_alloc | apply pw_below_drewN | apply below_drew1 | refine below_set ?_ GE303.out | refine below_set ?_ GE312.out) | exact HB.out)⟩⟩
      case rest =>
        clear HC12
        try clear c1
        try clear c2
        try clear p2
        try clear c9
        try clear c11
        try clear c11b0
        try clear c11b1
        try clear c13
        try clear c13b0
        try clear c13b1
        try clear c15
        try clear c18
        try clear c18b0
        try clear c18b1
        try clear c20
        try clear hcz10_0
        try clear hcz10_1
        try clear hcz10_2
        try clear hcz10_3
        try clear hcz10_4
        try clear hcz10_5
        try clear hcz10_6
        try clear hcz16_0
        try clear hcz16_1
        try clear hcz16_2
        try clear hcz16_3
        try clear hcz21_0
        try clear hcz21_1
        try clear hcz21_2
        try clear hcz21_3
        try clear hfz10_0
        try clear hfz10_1
        try clear hfz10_2
        try clear hfz10_3
        try clear hfz10_4
        try clear hfz10_5
        try clear hfz10_6
        try clear hfz16_0
        try clear hfz16_1
        try clear hfz16_2
        try clear hfz16_3
        try clear hfz21_0
        try clear hfz21_1
        try clear hfz21_2
        try clear hfz21_3
        obtain ⟨kq, x21_11, rfl, HA, HJ11, BK303, BK312, HB⟩ := hcut
        cases kq with
        | zero => exact absurd HA.out (by simp [round_Round.j0])
        | succ kj11 =>
          have H := HA.out
          clear HA
          simp only [round_Round.j0] at H
          by_cases c23 : x21_11 = true
          · subst c23
            have H1 : (some (0, 1)) = some (r1, r2) := by rw [if_pos rfl] at H; exact H
            clear H
            have H := H1
            clear H1
            simp only [Option.some.injEq, Prod.mk.injEq] at H
            obtain ⟨rfl, rfl⟩ := H
            go_wp2
            go_ret2
            exact ⟨by first | rfl | (simp [errW_none, errW_some] <;> rfl) | (simp [*, errW_none, errW_some] <;> rfl), by repeat (first | (with_reducible first | exact HB.out | apply below_alloc | apply pw_below_drewN | apply below_drew1 | refine below_set ?_ GE303.out | refine below_set ?_ GE312.out) | exact HB.out)⟩
          · replace c23 := Bool.eq_false_iff.mpr c23
            subst c23
            have H1 : (if t304 = 4 then (if a2_0 = true then (some (t310, 0)) else ((round_zero.f a2_0 l2_1 a2_2 a2_3).bind fun t315 => (if t315 = true then (some (t310, 0)) else (round_Round.j1 kj11 a0 a1 a2_0 l2_1 a2_2 a2_3 t304 t305 t306 t307 t308 t309 t310)))) else (round_Round.j1 kj11 a0 a1 a2_0 l2_1 a2_2 a2_3 t304 t305 t306 t307 t308 t309 t310)) = some (r1, r2) := by rw [if_neg (show ¬ (false = true) by decide)] at H; exact H
            clear H
            have H := H1
            clear H1
            by_cases c24 : t304 = 4
            · rw [if_pos c24] at H
              have c24b0 : (t304 == 4) = true := beq_iff_eq.mpr c24
              have c24b1 : (t304 != 4) = false := bne_eq_false_iff_eq.mpr c24
              clear c24
              by_cases c25 : a2_0 = true
              · subst c25
                have H1 : (some (t310, 0)) = some (r1, r2) := by rw [if_pos rfl] at H; exact H
                clear H
                have H := H1
                clear H1
                simp only [Option.some.injEq, Prod.mk.injEq] at H
                obtain ⟨rfl, rfl⟩ := H
                have hnb26 := NB312_303.out
                have hnc26 := NB303_312.out
                have hcz27_0 : wc.cell? ⟨gb312, 0, none⟩ = some (.int .i64 t304) := (blk_cell BK312.out 0).trans rfl
                have hcz27_1 : wc.cell? ⟨gb312, 1, none⟩ = some (.int .i64 t305) := (blk_cell BK312.out 1).trans rfl
                have hcz27_2 : wc.cell? ⟨gb312, 2, none⟩ = some (.int .i64 t306) := (blk_cell BK312.out 2).trans rfl
                have hcz27_3 : wc.cell? ⟨gb312, 3, none⟩ = some (.int .i64 t307) := (blk_cell BK312.out 3).trans rfl
                have hcz27_4 : wc.cell? ⟨gb312, 4, none⟩ = some (.int .u64 t308) := (blk_cell BK312.out 4).trans rfl
                have hcz27_5 : wc.cell? ⟨gb312, 5, none⟩ = some (.int .u64 t309) := (blk_cell BK312.out 5).trans rfl
                have hcz27_6 : wc.cell? ⟨gb312, 6, none⟩ = some (.int .u64 t310) := (blk_cell BK312.out 6).trans rfl
                have hfz27_0 := blk_frozen BK312.out 0
                have hfz27_1 := blk_frozen BK312.out 1
                have hfz27_2 := blk_frozen BK312.out 2
                have hfz27_3 := blk_frozen BK312.out 3
                have hfz27_4 := blk_frozen BK312.out 4
                have hfz27_5 := blk_frozen BK312.out 5
                have hfz27_6 := blk_frozen BK312.out 6
                have hcz28_0 : wc.cell? ⟨gb303, 0, none⟩ = some (.bool true) := (blk_cell BK303.out 0).trans rfl
                have hcz28_1 : wc.cell? ⟨gb303, 1, none⟩ = some (.slice A2_1 l2_1.length c2_1) := (blk_cell BK303.out 1).trans rfl
                have hcz28_2 : wc.cell? ⟨gb303, 2, none⟩ = some (.int .i64 a2_2) := (blk_cell BK303.out 2).trans rfl
                have hcz28_3 : wc.cell? ⟨gb303, 3, none⟩ = some (.int .i64 a2_3) := (blk_cell BK303.out 3).trans rfl
                have hfz28_0 := blk_frozen BK303.out 0
                have hfz28_1 := blk_frozen BK303.out 1
                have hfz28_2 := blk_frozen BK303.out 2
                have hfz28_3 := blk_frozen BK303.out 3
                go_wp2
                go_ret2
                exact ⟨by first | rfl | (simp [errW_none, errW_some] <;> rfl) | (simp [*, errW_none, errW_some] <;> rfl), by repeat (first | (with_reducible first | exact HB.out | apply below_alloc | apply pw_below_drewN | apply below_drew1 | refine below_set ?_ GE303.out | refine below_set ?_ GE312.out) | exact HB.out)⟩
              · replace c25 := Bool.eq_false_iff.mpr c25
                subst c25
                have H1 : ((round_zero.f false l2_1 a2_2 a2_3).bind fun t315 => (if t315 = true then (some (t310, 0)) else (round_Round.j1 kj11 a0 a1 false l2_1 a2_2 a2_3 t304 t305 t306 t307 t308 t309 t310))) = some (r1, r2) := by rw [if_neg (show ¬ (false = true) by decide)] at H; exact H
                clear H
                have H := H1
                clear H1
                replace H := Option.bind_eq_some_iff.mp H
                obtain ⟨t315, A290, H⟩ := H
                replace H : (if t315 = true then (some (t310, 0)) else (round_Round.j1 kj11 a0 a1 false l2_1 a2_2 a2_3 t304 t305 t306 t307 t308 t309 t310)) = some (r1, r2) := H
                have A29 := Aside0.mk A290
                clear A290
                by_cases c30 : t315 = true
                · subst c30
                  have H1 : (some (t310, 0)) = some (r1, r2) := by rw [if_pos rfl] at H; exact H
                  clear H
                  have H := H1
                  clear H1
                  simp only [Option.some.injEq, Prod.mk.injEq] at H
                  obtain ⟨rfl, rfl⟩ := H
                  have hnb31 := NB312_303.out
                  have hnc31 := NB303_312.out
                  have hcz32_0 : wc.cell? ⟨gb312, 0, none⟩ = some (.int .i64 t304) := (blk_cell BK312.out 0).trans rfl
                  have hcz32_1 : wc.cell? ⟨gb312, 1, none⟩ = some (.int .i64 t305) := (blk_cell BK312.out 1).trans rfl
                  have hcz32_2 : wc.cell? ⟨gb312, 2, none⟩ = some (.int .i64 t306) := (blk_cell BK312.out 2).trans rfl
                  have hcz32_3 : wc.cell? ⟨gb312, 3, none⟩ = some (.int .i64 t307) := (blk_cell BK312.out 3).trans rfl
                  have hcz32_4 : wc.cell? ⟨gb312, 4, none⟩ = some (.int .u64 t308) := (blk_cell BK312.out 4).trans rfl
                  have hcz32_5 : wc.cell? ⟨gb312, 5, none⟩ = some (.int .u64 t309) := (blk_cell BK312.out 5).trans rfl
                  have hcz32_6 : wc.cell? ⟨gb312, 6, none⟩ = some (.int .u64 t310) := (blk_cell BK312.out 6).trans rfl
                  have hfz32_0 := blk_frozen BK312.out 0
                  have hfz32_1 := blk_frozen BK312.out 1
                  have hfz32_2 := blk_frozen BK312.out 2
                  have hfz32_3 := blk_frozen BK312.out 3
                  have hfz32_4 := blk_frozen BK312.out 4
                  have hfz32_5 := blk_frozen BK312.out 5
                  have hfz32_6 := blk_frozen BK312.out 6
                  have hcz33_0 : wc.cell? ⟨gb303, 0, none⟩ = some (.bool false) := (blk_cell BK303.out 0).trans rfl
                  have hcz33_1 : wc.cell? ⟨gb303, 1, none⟩ = some (.slice A2_1 l2_1.length c2_1) := (blk_cell BK303.out 1).trans rfl
                  have hcz33_2 : wc.cell? ⟨gb303, 2, none⟩ = some (.int .i64 a2_2) := (blk_cell BK303.out 2).trans rfl
                  have hcz33_3 : wc.cell? ⟨gb303, 3, none⟩ = some (.int .i64 a2_3) := (blk_cell BK303.out 3).trans rfl
                  have hfz33_0 := blk_frozen BK303.out 0
                  have hfz33_1 := blk_frozen BK303.out 1
                  have hfz33_2 := blk_frozen BK303.out 2
                  have hfz33_3 := blk_frozen BK303.out 3
                  go_wp2_with (first | (go_at_call 33; (with_reducible refine (round_zero.calls false _ _ l2_1 a2_2 a2_3 true _ ?side1 ?side2 A29.out).mono ?_); (case side1 => repeat (first | exact (Kd.C_below HR2_1.out HB.out) | (with_reducible refine Kd.C_alloc ?_ _) | (with_reducible refine Kd.C_drewN ?_ _) | (with_reducible refine Kd.C_drew ?_))); (case side2 => exact HC2_1.out); rintro e w34 ⟨rfl, hb⟩; have n0_ := Aside0.mk (blk_below (g := gb303) (o := .cells #[.bool false, .slice A2_1 l2_1.length c2_1, .int .i64 a2_2, .int .i64 a2_3] 25 (0, 0)) (by (with_reducible repeat (first | refine blk_drewN ?_ _ | refine blk_drew ?_ | refine blk_alloc ?_ _)); exact BK303.out) hb); have n1_ := Aside0.mk (blk_below (g := gb312) (o := .cells #[.int .i64 t304, .int .i64 t305, .int .i64 t306, .int .i64 t307, .int .u64 t308, .int .u64 t309, .int .u64 t310] 51 (0, 0)) (by (with_reducible repeat (first | refine blk_drewN ?_ _ | refine blk_drew ?_ | refine blk_alloc ?_ _)); exact BK312.out) hb); have n2_ := Aside0.mk (below_step (by repeat (first | (with_reducible first | exact HB.out | apply below_alloc | apply pw_below_drewN | apply below_drew1 | refine below_set ?_ GE303.out | refine below_set ?_ GE312.out) | exact HB.out)) hb); clear BK303; clear BK312; clear HB; have BK303 := n0_; have BK312 := n1_; have HB := n2_; clear n0_ n1_ n2_; (try clear hb); (try clear hb2); (try clear hk); (try clear hi); have hcz35_0 : w34.cell? ⟨gb312, 0, none⟩ = some (.int .i64 t304) := (blk_cell BK312.out 0).trans rfl; have hcz35_1 : w34.cell? ⟨gb312, 1, none⟩ = some (.int .i64 t305) := (blk_cell BK312.out 1).trans rfl; have hcz35_2 : w34.cell? ⟨gb312, 2, none⟩ = some (.int .i64 t306) := (blk_cell BK312.out 2).trans rfl; have hcz35_3 : w34.cell? ⟨gb312, 3, none⟩ = some (.int .i64 t307) := (blk_cell BK312.out 3).trans rfl; have hcz35_4 : w34.cell? ⟨gb312, 4, none⟩ = some (.int .u64 t308) := (blk_cell BK312.out 4).trans rfl; have hcz35_5 : w34.cell? ⟨gb312, 5, none⟩ = some (.int .u64 t309) := (blk_cell BK312.out 5).trans rfl; have hcz35_6 : w34.cell? ⟨gb312, 6, none⟩ = some (.int .u64 t310) := (blk_cell BK312.out 6).trans rfl; have hfz35_0 := blk_frozen BK312.out 0; have hfz35_1 := blk_frozen BK312.out 1; have hfz35_2 := blk_frozen BK312.out 2; have hfz35_3 := blk_frozen BK312.out 3; have hfz35_4 := blk_frozen BK312.out 4; have hfz35_5 := blk_frozen BK312.out 5; have hfz35_6 := blk_frozen BK312.out 6))
                  go_ret2
                  exact ⟨by first | rfl | (simp [errW_none, errW_some] <;> rfl) | (simp [*, errW_none, errW_some] <;> rfl), by repeat (first | (with_reducible first | exact HB.out | apply below_alloc | apply pw_below_drewN | apply below_drew1 | refine below_set ?_ GE303.out | refine below_set ?_ GE312.out) | exact HB.out)⟩
                · replace c30 := Bool.eq_false_iff.mpr c30
                  subst c30
                  have H1 : (round_Round.j1 kj11 a0 a1 false l2_1 a2_2 a2_3 t304 t305 t306 t307 t308 t309 t310) = some (r1, r2) := by rw [if_neg (show ¬ (false = true) by decide)] at H; exact H
                  clear H
                  have H := H1
                  clear H1
                  have H' := Aside0.mk H
                  clear H
                  have hnb36 := NB312_303.out
                  have hnc36 := NB303_312.out
                  have hcz37_0 : wc.cell? ⟨gb312, 0, none⟩ = some (.int .i64 t304) := (blk_cell BK312.out 0).trans rfl
                  have hcz37_1 : wc.cell? ⟨gb312, 1, none⟩ = some (.int .i64 t305) := (blk_cell BK312.out 1).trans rfl
                  have hcz37_2 : wc.cell? ⟨gb312, 2, none⟩ = some (.int .i64 t306) := (blk_cell BK312.out 2).trans rfl
                  have hcz37_3 : wc.cell? ⟨gb312, 3, none⟩ = some (.int .i64 t307) := (blk_cell BK312.out 3).trans rfl
                  have hcz37_4 : wc.cell? ⟨gb312, 4, none⟩ = some (.int .u64 t308) := (blk_cell BK312.out 4).trans rfl
                  have hcz37_5 : wc.cell? ⟨gb312, 5, none⟩ = some (.int .u64 t309) := (blk_cell BK312.out 5).trans rfl
                  have hcz37_6 : wc.cell? ⟨gb312, 6, none⟩ = some (.int .u64 t310) := (blk_cell BK312.out 6).trans rfl
                  have hfz37_0 := blk_frozen BK312.out 0
                  have hfz37_1 := blk_frozen BK312.out 1
                  have hfz37_2 := blk_frozen BK312.out 2
                  have hfz37_3 := blk_frozen BK312.out 3
                  have hfz37_4 := blk_frozen BK312.out 4
                  have hfz37_5 := blk_frozen BK312.out 5
                  have hfz37_6 := blk_frozen BK312.out 6
                  have hcz38_0 : wc.cell? ⟨gb303, 0, none⟩ = some (.bool false) := (blk_cell BK303.out 0).trans rfl
                  have hcz38_1 : wc.cell? ⟨gb303, 1, none⟩ = some (.slice A2_1 l2_1.length c2_1) := (blk_cell BK303.out 1).trans rfl
                  have hcz38_2 : wc.cell? ⟨gb303, 2, none⟩ = some (.int .i64 a2_2) := (blk_cell BK303.out 2).trans rfl
                  have hcz38_3 : wc.cell? ⟨gb303, 3, none⟩ = some (.int .i64 a2_3) := (blk_cell BK303.out 3).trans rfl
                  have hfz38_0 := blk_frozen BK303.out 0
                  have hfz38_1 := blk_frozen BK303.out 1
                  have hfz38_2 := blk_frozen BK303.out 2
                  have hfz38_3 := blk_frozen BK303.out 3
                  go_wp2_with (first | (go_at_call 33; (with_reducible refine (round_zero.calls false _ _ l2_1 a2_2 a2_3 false _ ?side1 ?side2 A29.out).mono ?_); (case side1 => repeat (first | exact (Kd.C_below HR2_1.out HB.out) | (with_reducible refine Kd.C_alloc ?_ _) | (with_reducible refine Kd.C_drewN ?_ _) | (with_reducible refine Kd.C_drew ?_))); (case side2 => exact HC2_1.out); rintro e w39 ⟨rfl, hb⟩; have n0_ := Aside0.mk (blk_below (g := gb303) (o := .cells #[.bool false, .slice A2_1 l2_1.length c2_1, .int .i64 a2_2, .int .i64 a2_3] 25 (0, 0)) (by (with_reducible repeat (first | refine blk_drewN ?_ _ | refine blk_drew ?_ | refine blk_alloc ?_ _)); exact BK303.out) hb); have n1_ := Aside0.mk (blk_below (g := gb312) (o := .cells #[.int .i64 t304, .int .i64 t305, .int .i64 t306, .int .i64 t307, .int .u64 t308, .int .u64 t309, .int .u64 t310] 51 (0, 0)) (by (with_reducible repeat (first | refine blk_drewN ?_ _ | refine blk_drew ?_ | refine blk_alloc ?_ _)); exact BK312.out) hb); have n2_ := Aside0.mk (below_step (by repeat (first | (with_reducible first | exact HB.out | apply below_alloc | apply pw_below_drewN | apply below_drew1 | refine below_set ?_ GE303.out | refine below_set ?_ GE312.out) | exact HB.out)) hb); clear BK303; clear BK312; clear HB; have BK303 := n0_; have BK312 := n1_; have HB := n2_; clear n0_ n1_ n2_; (try clear hb); (try clear hb2); (try clear hk); (try clear hi)))
                  go_meet
                  case rel => exact ⟨_, H', ⟨by have := HJ11.out; first | omega | exact Nat.le_refl _⟩, ⟨by (with_reducible repeat (first | refine blk_drewN ?_ _ | refine blk_drew ?_ | refine blk_alloc ?_ _)); exact BK303.out⟩, ⟨by (with_reducible repeat (first | refine blk_drewN ?_ _ | refine blk_drew ?_ | refine blk_alloc ?_ _)); exact BK312.out⟩, ⟨by repeat (first | (with_reducible first | exact HB.out | apply below_alloc | apply pw_below_drewN | apply below_drew1 | refine below_set ?_ GE303.out | refine below_set ?_ GE312.out) | exact HB.out)⟩⟩
            · rw [if_neg c24] at H
              have c24b0 : (t304 == 4) = false := beq_eq_false_iff_ne.mpr c24
              have c24b1 : (t304 != 4) = true := bne_iff_ne.mpr c24
              have H' := Aside0.mk H
              clear H
              have hnb40 := NB312_303.out
              have hnc40 := NB303_312.out
              have hcz41_0 : wc.cell? ⟨gb312, 0, none⟩ = some (.int .i64 t304) := (blk_cell BK312.out 0).trans rfl
              have hcz41_1 : wc.cell? ⟨gb312, 1, none⟩ = some (.int .i64 t305) := (blk_cell BK312.out 1).trans rfl
              have hcz41_2 : wc.cell? ⟨gb312, 2, none⟩ = some (.int .i64 t306) := (blk_cell BK312.out 2).trans rfl
              have hcz41_3 : wc.cell? ⟨gb312, 3, none⟩ = some (.int .i64 t307) := (blk_cell BK312.out 3).trans rfl
              have hcz41_4 : wc.cell? ⟨gb312, 4, none⟩ = some (.int .u64 t308) := (blk_cell BK312.out 4).trans rfl
              have hcz41_5 : wc.cell? ⟨gb312, 5, none⟩ = some (.int .u64 t309) := (blk_cell BK312.out 5).trans rfl
              have hcz41_6 : wc.cell? ⟨gb312, 6, none⟩ = some (.int .u64 t310) := (blk_cell BK312.out 6).trans rfl
              have hfz41_0 := blk_frozen BK312.out 0
              have hfz41_1 := blk_frozen BK312.out 1
              have hfz41_2 := blk_frozen BK312.out 2
              have hfz41_3 := blk_frozen BK312.out 3
              have hfz41_4 := blk_frozen BK312.out 4
              have hfz41_5 := blk_frozen BK312.out 5
              have hfz41_6 := blk_frozen BK312.out 6
              go_wp2
              go_meet
              case rel => exact ⟨_, H', ⟨by have := HJ11.out; first | omega | exact Nat.le_refl _⟩, ⟨by (with_reducible repeat (first | refine blk_drewN ?_ _ | refine blk_drew ?_ | refine blk_alloc ?_ _)); exact BK303.out⟩, ⟨by (with_reducible repeat (first | refine blk_drewN ?_ _ | refine blk_drew ?_ | refine blk_alloc ?_ _)); exact BK312.out⟩, ⟨by repeat (first | (with_reducible first | exact HB.out | apply below_alloc | apply pw_below_drewN | apply below_drew1 | refine below_set ?_ GE303.out | refine below_set ?_ GE312.out) | exact HB.out)⟩⟩
    · rw [if_neg c11] at H
      have c11b0 : (t311 == 0) = false := beq_eq_false_iff_ne.mpr c11
      have c11b1 : (t311 != 0) = true := bne_iff_ne.mpr c11
      (first | rw [c11b0] | (simp only [i64_w, i32_w]; rw [c11b0]) | skip)
      simp only [Option.some.injEq, Prod.mk.injEq] at H
      obtain ⟨rfl, rfl⟩ := H
      go_wp2
      go_ret2
      exact ⟨by first | rfl | (simp [errW_none, errW_some] <;> rfl) | (simp [*, errW_none, errW_some] <;> rfl), by repeat (first | (with_reducible first | exact HB.out | apply below_alloc | apply pw_below_drewN | apply below_drew1 | refine below_set ?_ GE303.out | refine below_set ?_ GE312.out) | exact HB.out)⟩
  case rest =>
    clear HC5
    try clear c1
    try clear c2
    try clear p2
    try clear c3
    try clear c4
    try clear c9
    try clear c11
    try clear c11b0
    try clear c11b1
    try clear c13
    try clear c13b0
    try clear c13b1
    try clear c15
    try clear c18
    try clear c18b0
    try clear c18b1
    try clear c20
    try clear c23
    try clear c24
    try clear c24b0
    try clear c24b1
    try clear c25
    try clear c26
    try clear c30
    try clear c31
    try clear c36
    try clear c40
    try clear hcz10_0
    try clear hcz10_1
    try clear hcz10_2
    try clear hcz10_3
    try clear hcz10_4
    try clear hcz10_5
    try clear hcz10_6
    try clear hcz16_0
    try clear hcz16_1
    try clear hcz16_2
    try clear hcz16_3
    try clear hcz21_0
    try clear hcz21_1
    try clear hcz21_2
    try clear hcz21_3
    try clear hcz27_0
    try clear hcz27_1
    try clear hcz27_2
    try clear hcz27_3
    try clear hcz27_4
    try clear hcz27_5
    try clear hcz27_6
    try clear hcz28_0
    try clear hcz28_1
    try clear hcz28_2
    try clear hcz28_3
    try clear hcz32_0
    try clear hcz32_1
    try clear hcz32_2
    try clear hcz32_3
    try clear hcz32_4
    try clear hcz32_5
    try clear hcz32_6
    try clear hcz33_0
    try clear hcz33_1
    try clear hcz33_2
    try clear hcz33_3
    try clear hcz35_0
    try clear hcz35_1
    try clear hcz35_2
    try clear hcz35_3
    try clear hcz35_4
    try clear hcz35_5
    try clear hcz35_6
    try clear hcz37_0
    try clear hcz37_1
    try clear hcz37_2
    try clear hcz37_3
    try clear hcz37_4
    try clear hcz37_5
    try clear hcz37_6
    try clear hcz38_0
    try clear hcz38_1
    try clear hcz38_2
    try clear hcz38_3
    try clear hcz41_0
    try clear hcz41_1
    try clear hcz41_2
    try clear hcz41_3
    try clear hcz41_4
    try clear hcz41_5
    try clear hcz41_6
    try clear hfz10_0
    try clear hfz10_1
    try clear hfz10_2
    try clear hfz10_3
    try clear hfz10_4
    try clear hfz10_5
    try clear hfz10_6
    try clear hfz16_0
    try clear hfz16_1
    try clear hfz16_2
    try clear hfz16_3
    try clear hfz21_0
    try clear hfz21_1
    try clear hfz21_2
    try clear hfz21_3
    try clear hfz27_0
    try clear hfz27_1
    try clear hfz27_2
    try clear hfz27_3
    try clear hfz27_4
    try clear hfz27_5
    try clear hfz27_6
    try clear hfz28_0
    try clear hfz28_1
    try clear hfz28_2
    try clear hfz28_3
    try clear hfz32_0
    try clear hfz32_1
    try clear hfz32_2
    try clear hfz32_3
    try clear hfz32_4
    try clear hfz32_5
    try clear hfz32_6
    try clear hfz33_0
    try clear hfz33_1
    try clear hfz33_2
    try clear hfz33_3
    try clear hfz35_0
    try clear hfz35_1
    try clear hfz35_2
    try clear hfz35_3
    try clear hfz35_4
    try clear hfz35_5
    try clear hfz35_6
    try clear hfz37_0
    try clear hfz37_1
    try clear hfz37_2
    try clear hfz37_3
    try clear hfz37_4
    try clear hfz37_5
    try clear hfz37_6
    try clear hfz38_0
    try clear hfz38_1
    try clear hfz38_2
    try clear hfz38_3
    try clear hfz41_0
    try clear hfz41_1
    try clear hfz41_2
    try clear hfz41_3
    try clear hfz41_4
    try clear hfz41_5
    try clear hfz41_6
    try clear p2
    obtain ⟨kq, HA, HJ4, BK303, BK312, HB⟩ := hcut
    cases kq with
    | zero => exact absurd HA.out (by simp [round_Round.j1])
    | succ kj4 =>
      have H := HA.out
      clear HA
      simp only [round_Round.j1] at H
      replace H := Option.bind_eq_some_iff.mp H
      obtain ⟨⟨t316, t317, t318⟩, A420, H⟩ := H
      replace H : (if t318 = 0 then (if t317 = true then ((round_large.f kj4 t304 t305 t306 t307 t308 t309 t310 a0 a1 a2_0).bind fun t319 => (some (t319, 0))) else ((value_Pattern.f a0 a2_0 t316).bind fun bt320 => (some (bt320.1, bt320.2)))) else (some (0, t318))) = some (r1, r2) := H
      have A42 := Aside0.mk A420
      clear A420
      by_cases c43 : t318 = 0
      · rw [if_pos c43] at H
        have c43b0 : (t318 == 0) = true := beq_iff_eq.mpr c43
        have c43b1 : (t318 != 0) = false := bne_eq_false_iff_eq.mpr c43
        clear c43
        by_cases c44 : t317 = true
        · subst c44
          have H1 : ((round_large.f kj4 t304 t305 t306 t307 t308 t309 t310 a0 a1 a2_0).bind fun t319 => (some (t319, 0))) = some (r1, r2) := by rw [if_pos rfl] at H; exact H
          clear H
          have H := H1
          clear H1
          replace H := Option.bind_eq_some_iff.mp H
          obtain ⟨t319, A450, H⟩ := H
          replace H : (some (t319, 0)) = some (r1, r2) := H
          have A45 := Aside0.mk A450
          clear A450
          simp only [Option.some.injEq, Prod.mk.injEq] at H
          obtain ⟨rfl, rfl⟩ := H
          have hnb46 := NB303_312.out
          have hnc46 := NB312_303.out
          have hcz47_0 : wc.cell? ⟨gb303, 0, none⟩ = some (.bool a2_0) := (blk_cell BK303.out 0).trans rfl
          have hcz47_1 : wc.cell? ⟨gb303, 1, none⟩ = some (.slice A2_1 l2_1.length c2_1) := (blk_cell BK303.out 1).trans rfl
          have hcz47_2 : wc.cell? ⟨gb303, 2, none⟩ = some (.int .i64 a2_2) := (blk_cell BK303.out 2).trans rfl
          have hcz47_3 : wc.cell? ⟨gb303, 3, none⟩ = some (.int .i64 a2_3) := (blk_cell BK303.out 3).trans rfl
          have hfz47_0 := blk_frozen BK303.out 0
          have hfz47_1 := blk_frozen BK303.out 1
          have hfz47_2 := blk_frozen BK303.out 2
          have hfz47_3 := blk_frozen BK303.out 3
          go_wp2_with (first | ((with_reducible refine gate_callee (f := 14) rfl ?_); refine goesL_ (some 52) rfl rfl Tryd.func14 (by kernel_rfl) rfl #[.int .i64 a0, .bool a2_0, .agg #[.bool a2_0, .slice A2_1 l2_1.length c2_1, .int .i64 a2_2, .int .i64 a2_3]] rfl (by (try simp only [List.map_toArray, List.map_cons, List.map_nil]); first | done | rfl | (simp only [List.length_drop, List.length_take]; rfl)) ?_; (with_reducible refine (round_Nearest.calls kj4 a0 a2_0 a2_0 _ _ l2_1 a2_2 a2_3 t316 true t318 _ ?side3 ?side1 ?side2 A42.out).mono ?_); (case side1 => repeat (first | exact (Kd.C_below HR2_1.out HB.out) | (with_reducible refine Kd.C_alloc ?_ _) | (with_reducible refine Kd.C_drewN ?_ _) | (with_reducible refine Kd.C_drew ?_))); (case side2 => exact HC2_1.out); (case side3 => exact Glob.below HG.out (by repeat (first | (with_reducible first | exact HB.out | apply below_alloc | apply pw_below_drewN | apply below_drew1 | refine below_set ?_ GE303.out | refine below_set ?_ GE312.out) | exact HB.out))); rintro e w48 ⟨rfl, hb⟩; refine ⟨_, rfl, ?_⟩; have n0_ := Aside0.mk (blk_below (g := gb303) (o := .cells #[.bool a2_0, .slice A2_1 l2_1.length c2_1, .int .i64 a2_2, .int .i64 a2_3] 25 (0, 0)) (by (with_reducible repeat (first | refine blk_drewN ?_ _ | refine blk_drew ?_ | refine blk_alloc ?_ _)); exact BK303.out) hb); have n1_ := Aside0.mk (blk_below (g := gb312) (o := .cells #[.int .i64 t304, .int .i64 t305, .int .i64 t306, .int .i64 t307, .int .u64 t308, .int .u64 t309, .int .u64 t310] 51 (0, 0)) (by (with_reducible repeat (first | refine blk_drewN ?_ _ | refine blk_drew ?_ | refine blk_alloc ?_ _)); exact BK312.out) hb); have n2_ := Aside0.mk (below_step (by repeat (first | (with_reducible first | exact HB.out | apply below_alloc | apply pw_below_drewN | apply below_drew1 | refine below_set ?_ GE303.out | refine below_set ?_ GE312.out) | exact HB.out)) hb); clear BK303; clear BK312; clear HB; have BK303 := n0_; have BK312 := n1_; have HB := n2_; clear n0_ n1_ n2_; (try clear hb); (try clear hb2); (try clear hk); (try clear hi); have hcz49_0 : w48.cell? ⟨gb312, 0, none⟩ = some (.int .i64 t304) := (blk_cell BK312.out 0).trans rfl; have hcz49_1 : w48.cell? ⟨gb312, 1, none⟩ = some (.int .i64 t305) := (blk_cell BK312.out 1).trans rfl; have hcz49_2 : w48.cell? ⟨gb312, 2, none⟩ = some (.int .i64 t306) := (blk_cell BK312.out 2).trans rfl; have hcz49_3 : w48.cell? ⟨gb312, 3, none⟩ = some (.int .i64 t307) := (blk_cell BK312.out 3).trans rfl; have hcz49_4 : w48.cell? ⟨gb312, 4, none⟩ = some (.int .u64 t308) := (blk_cell BK312.out 4).trans rfl; have hcz49_5 : w48.cell? ⟨gb312, 5, none⟩ = some (.int .u64 t309) := (blk_cell BK312.out 5).trans rfl; have hcz49_6 : w48.cell? ⟨gb312, 6, none⟩ = some (.int .u64 t310) := (blk_cell BK312.out 6).trans rfl; have hfz49_0 := blk_frozen BK312.out 0; have hfz49_1 := blk_frozen BK312.out 1; have hfz49_2 := blk_frozen BK312.out 2; have hfz49_3 := blk_frozen BK312.out 3; have hfz49_4 := blk_frozen BK312.out 4; have hfz49_5 := blk_frozen BK312.out 5; have hfz49_6 := blk_frozen BK312.out 6; have hcz50_0 : w48.cell? ⟨gb303, 0, none⟩ = some (.bool a2_0) := (blk_cell BK303.out 0).trans rfl; have hcz50_1 : w48.cell? ⟨gb303, 1, none⟩ = some (.slice A2_1 l2_1.length c2_1) := (blk_cell BK303.out 1).trans rfl; have hcz50_2 : w48.cell? ⟨gb303, 2, none⟩ = some (.int .i64 a2_2) := (blk_cell BK303.out 2).trans rfl; have hcz50_3 : w48.cell? ⟨gb303, 3, none⟩ = some (.int .i64 a2_3) := (blk_cell BK303.out 3).trans rfl; have hfz50_0 := blk_frozen BK303.out 0; have hfz50_1 := blk_frozen BK303.out 1; have hfz50_2 := blk_frozen BK303.out 2; have hfz50_3 := blk_frozen BK303.out 3) | ((with_reducible refine gate_callee (f := 34) rfl ?_); refine goesL_ (some 65) rfl rfl Tryd.func34 (by kernel_rfl) rfl #[.agg #[.int .i64 t304, .int .i64 t305, .int .i64 t306, .int .i64 t307, .int .u64 t308, .int .u64 t309, .int .u64 t310], .int .i64 a0, .int .i64 a1, .bool a2_0] rfl (by (try simp only [List.map_toArray, List.map_cons, List.map_nil]); first | done | rfl | (simp only [List.length_drop, List.length_take]; rfl)) ?_; (with_reducible refine (round_large.calls kj4 t304 t305 t306 t307 t308 t309 t310 a0 a1 a2_0 t319 _ ?side1 A45.out).mono ?_); (case side1 => exact Glob.below HG.out (by repeat (first | (with_reducible first | exact HB.out | apply below_alloc | apply pw_below_drewN | apply below_drew1 | refine below_set ?_ GE303.out | refine below_set ?_ GE312.out) | exact HB.out))); rintro e w51 ⟨rfl, hb⟩; refine ⟨_, rfl, ?_⟩; have n0_ := Aside0.mk (blk_below (g := gb303) (o := .cells #[.bool a2_0, .slice A2_1 l2_1.length c2_1, .int .i64 a2_2, .int .i64 a2_3] 25 (0, 0)) (by (with_reducible repeat (first | refine blk_drewN ?_ _ | refine blk_drew ?_ | refine blk_alloc ?_ _)); exact BK303.out) hb); have n1_ := Aside0.mk (blk_below (g := gb312) (o := .cells #[.int .i64 t304, .int .i64 t305, .int .i64 t306, .int .i64 t307, .int .u64 t308, .int .u64 t309, .int .u64 t310] 51 (0, 0)) (by (with_reducible repeat (first | refine blk_drewN ?_ _ | refine blk_drew ?_ | refine blk_alloc ?_ _)); exact BK312.out) hb); have n2_ := Aside0.mk (below_step (by repeat (first | (with_reducible first | exact HB.out | apply below_alloc | apply pw_below_drewN | apply below_drew1 | refine below_set ?_ GE303.out | refine below_set ?_ GE312.out) | exact HB.out)) hb); clear BK303; clear BK312; clear HB; have BK303 := n0_; have BK312 := n1_; have HB := n2_; clear n0_ n1_ n2_; (try clear hb); (try clear hb2); (try clear hk); (try clear hi)))
          go_ret2
          exact ⟨by first | rfl | (simp [errW_none, errW_some] <;> rfl) | (simp [*, errW_none, errW_some] <;> rfl), by repeat (first | (with_reducible first | exact HB.out | apply below_alloc | apply pw_below_drewN | apply below_drew1 | refine below_set ?_ GE303.out | refine below_set ?_ GE312.out) | exact HB.out)⟩
        · replace c44 := Bool.eq_false_iff.mpr c44
          subst c44
          have H1 : ((value_Pattern.f a0 a2_0 t316).bind fun bt320 => (some (bt320.1, bt320.2))) = some (r1, r2) := by rw [if_neg (show ¬ (false = true) by decide)] at H; exact H
          clear H
          have H := H1
          clear H1
          replace H := Option.bind_eq_some_iff.mp H
          obtain ⟨⟨t320, t321⟩, A520, H⟩ := H
          replace H : (some (t320, t321)) = some (r1, r2) := H
          have A52 := Aside0.mk A520
          clear A520
          simp only [Option.some.injEq, Prod.mk.injEq] at H
          obtain ⟨rfl, rfl⟩ := H
          have hnb53 := NB303_312.out
          have hnc53 := NB312_303.out
          have hcz54_0 : wc.cell? ⟨gb303, 0, none⟩ = some (.bool a2_0) := (blk_cell BK303.out 0).trans rfl
          have hcz54_1 : wc.cell? ⟨gb303, 1, none⟩ = some (.slice A2_1 l2_1.length c2_1) := (blk_cell BK303.out 1).trans rfl
          have hcz54_2 : wc.cell? ⟨gb303, 2, none⟩ = some (.int .i64 a2_2) := (blk_cell BK303.out 2).trans rfl
          have hcz54_3 : wc.cell? ⟨gb303, 3, none⟩ = some (.int .i64 a2_3) := (blk_cell BK303.out 3).trans rfl
          have hfz54_0 := blk_frozen BK303.out 0
          have hfz54_1 := blk_frozen BK303.out 1
          have hfz54_2 := blk_frozen BK303.out 2
          have hfz54_3 := blk_frozen BK303.out 3
          go_wp2_with (first | ((with_reducible refine gate_callee (f := 14) rfl ?_); refine goesL_ (some 52) rfl rfl Tryd.func14 (by kernel_rfl) rfl #[.int .i64 a0, .bool a2_0, .agg #[.bool a2_0, .slice A2_1 l2_1.length c2_1, .int .i64 a2_2, .int .i64 a2_3]] rfl (by (try simp only [List.map_toArray, List.map_cons, List.map_nil]); first | done | rfl | (simp only [List.length_drop, List.length_take]; rfl)) ?_; (with_reducible refine (round_Nearest.calls kj4 a0 a2_0 a2_0 _ _ l2_1 a2_2 a2_3 t316 false t318 _ ?side3 ?side1 ?side2 A42.out).mono ?_); (case side1 => repeat (first | exact (Kd.C_below HR2_1.out HB.out) | (with_reducible refine Kd.C_alloc ?_ _) | (with_reducible refine Kd.C_drewN ?_ _) | (with_reducible refine Kd.C_drew ?_))); (case side2 => exact HC2_1.out); (case side3 => exact Glob.below HG.out (by repeat (first | (with_reducible first | exact HB.out | apply below_alloc | apply pw_below_drewN | apply below_drew1 | refine below_set ?_ GE303.out | refine below_set ?_ GE312.out) | exact HB.out))); rintro e w55 ⟨rfl, hb⟩; refine ⟨_, rfl, ?_⟩; have n0_ := Aside0.mk (blk_below (g := gb303) (o := .cells #[.bool a2_0, .slice A2_1 l2_1.length c2_1, .int .i64 a2_2, .int .i64 a2_3] 25 (0, 0)) (by (with_reducible repeat (first | refine blk_drewN ?_ _ | refine blk_drew ?_ | refine blk_alloc ?_ _)); exact BK303.out) hb); have n1_ := Aside0.mk (blk_below (g := gb312) (o := .cells #[.int .i64 t304, .int .i64 t305, .int .i64 t306, .int .i64 t307, .int .u64 t308, .int .u64 t309, .int .u64 t310] 51 (0, 0)) (by (with_reducible repeat (first | refine blk_drewN ?_ _ | refine blk_drew ?_ | refine blk_alloc ?_ _)); exact BK312.out) hb); have n2_ := Aside0.mk (below_step (by repeat (first | (with_reducible first | exact HB.out | apply below_alloc | apply pw_below_drewN | apply below_drew1 | refine below_set ?_ GE303.out | refine below_set ?_ GE312.out) | exact HB.out)) hb); clear BK303; clear BK312; clear HB; have BK303 := n0_; have BK312 := n1_; have HB := n2_; clear n0_ n1_ n2_; (try clear hb); (try clear hb2); (try clear hk); (try clear hi); have hcz56_0 : w55.cell? ⟨gb303, 0, none⟩ = some (.bool a2_0) := (blk_cell BK303.out 0).trans rfl; have hcz56_1 : w55.cell? ⟨gb303, 1, none⟩ = some (.slice A2_1 l2_1.length c2_1) := (blk_cell BK303.out 1).trans rfl; have hcz56_2 : w55.cell? ⟨gb303, 2, none⟩ = some (.int .i64 a2_2) := (blk_cell BK303.out 2).trans rfl; have hcz56_3 : w55.cell? ⟨gb303, 3, none⟩ = some (.int .i64 a2_3) := (blk_cell BK303.out 3).trans rfl; have hfz56_0 := blk_frozen BK303.out 0; have hfz56_1 := blk_frozen BK303.out 1; have hfz56_2 := blk_frozen BK303.out 2; have hfz56_3 := blk_frozen BK303.out 3) | ((with_reducible refine gate_callee (f := 35) rfl ?_); refine goesL_ (some 70) rfl rfl Tryd.func35 (by kernel_rfl) rfl #[.int .i64 a0, .bool a2_0, .int .u64 t316] rfl (by (try simp only [List.map_toArray, List.map_cons, List.map_nil]); first | done | rfl | (simp only [List.length_drop, List.length_take]; rfl)) ?_; (with_reducible refine (value_Pattern.calls a0 a2_0 t316 t320 t321 _ ?side1 A52.out).mono ?_); (case side1 => exact Glob.below HG.out (by repeat (first | (with_reducible first | exact HB.out | apply below_alloc | apply pw_below_drewN | apply below_drew1 | refine below_set ?_ GE303.out | refine below_set ?_ GE312.out) | exact HB.out))); rintro e w57 ⟨rfl, hb⟩; refine ⟨_, rfl, ?_⟩; have n0_ := Aside0.mk (blk_below (g := gb303) (o := .cells #[.bool a2_0, .slice A2_1 l2_1.length c2_1, .int .i64 a2_2, .int .i64 a2_3] 25 (0, 0)) (by (with_reducible repeat (first | refine blk_drewN ?_ _ | refine blk_drew ?_ | refine blk_alloc ?_ _)); exact BK303.out) hb); have n1_ := Aside0.mk (blk_below (g := gb312) (o := .cells #[.int .i64 t304, .int .i64 t305, .int .i64 t306, .int .i64 t307, .int .u64 t308, .int .u64 t309, .int .u64 t310] 51 (0, 0)) (by (with_reducible repeat (first | refine blk_drewN ?_ _ | refine blk_drew ?_ | refine blk_alloc ?_ _)); exact BK312.out) hb); have n2_ := Aside0.mk (below_step (by repeat (first | (with_reducible first | exact HB.out | apply below_alloc | apply pw_below_drewN | apply below_drew1 | refine below_set ?_ GE303.out | refine below_set ?_ GE312.out) | exact HB.out)) hb); clear BK303; clear BK312; clear HB; have BK303 := n0_; have BK312 := n1_; have HB := n2_; clear n0_ n1_ n2_; (try clear hb); (try clear hb2); (try clear hk); (try clear hi)))
          go_ret2
          exact ⟨by first | rfl | (simp [errW_none, errW_some] <;> rfl) | (simp [*, errW_none, errW_some] <;> rfl), by repeat (first | (with_reducible first | exact HB.out | apply below_alloc | apply pw_below_drewN | apply below_drew1 | refine below_set ?_ GE303.out | refine below_set ?_ GE312.out) | exact HB.out)⟩
      · rw [if_neg c43] at H
        have c43b0 : (t318 == 0) = false := beq_eq_false_iff_ne.mpr c43
        have c43b1 : (t318 != 0) = true := bne_iff_ne.mpr c43
        simp only [Option.some.injEq, Prod.mk.injEq] at H
        obtain ⟨rfl, rfl⟩ := H
        have hnb58 := NB303_312.out
        have hnc58 := NB312_303.out
        have hcz59_0 : wc.cell? ⟨gb303, 0, none⟩ = some (.bool a2_0) := (blk_cell BK303.out 0).trans rfl
        have hcz59_1 : wc.cell? ⟨gb303, 1, none⟩ = some (.slice A2_1 l2_1.length c2_1) := (blk_cell BK303.out 1).trans rfl
        have hcz59_2 : wc.cell? ⟨gb303, 2, none⟩ = some (.int .i64 a2_2) := (blk_cell BK303.out 2).trans rfl
        have hcz59_3 : wc.cell? ⟨gb303, 3, none⟩ = some (.int .i64 a2_3) := (blk_cell BK303.out 3).trans rfl
        have hfz59_0 := blk_frozen BK303.out 0
        have hfz59_1 := blk_frozen BK303.out 1
        have hfz59_2 := blk_frozen BK303.out 2
        have hfz59_3 := blk_frozen BK303.out 3
        go_wp2_with (first | ((with_reducible refine gate_callee (f := 14) rfl ?_); refine goesL_ (some 52) rfl rfl Tryd.func14 (by kernel_rfl) rfl #[.int .i64 a0, .bool a2_0, .agg #[.bool a2_0, .slice A2_1 l2_1.length c2_1, .int .i64 a2_2, .int .i64 a2_3]] rfl (by (try simp only [List.map_toArray, List.map_cons, List.map_nil]); first | done | rfl | (simp only [List.length_drop, List.length_take]; rfl)) ?_; (with_reducible refine (round_Nearest.calls kj4 a0 a2_0 a2_0 _ _ l2_1 a2_2 a2_3 t316 t317 t318 _ ?side3 ?side1 ?side2 A42.out).mono ?_); (case side1 => repeat (first | exact (Kd.C_below HR2_1.out HB.out) | (with_reducible refine Kd.C_alloc ?_ _) | (with_reducible refine Kd.C_drewN ?_ _) | (with_reducible refine Kd.C_drew ?_))); (case side2 => exact HC2_1.out); (case side3 => exact Glob.below HG.out (by repeat (first | (with_reducible first | exact HB.out | apply below_alloc | apply pw_below_drewN | apply below_drew1 | refine below_set ?_ GE303.out | refine below_set ?_ GE312.out) | exact HB.out))); rintro e w60 ⟨rfl, hb⟩; refine ⟨_, rfl, ?_⟩; have n0_ := Aside0.mk (blk_below (g := gb303) (o := .cells #[.bool a2_0, .slice A2_1 l2_1.length c2_1, .int .i64 a2_2, .int .i64 a2_3] 25 (0, 0)) (by (with_reducible repeat (first | refine blk_drewN ?_ _ | refine blk_drew ?_ | refine blk_alloc ?_ _)); exact BK303.out) hb); have n1_ := Aside0.mk (blk_below (g := gb312) (o := .cells #[.int .i64 t304, .int .i64 t305, .int .i64 t306, .int .i64 t307, .int .u64 t308, .int .u64 t309, .int .u64 t310] 51 (0, 0)) (by (with_reducible repeat (first | refine blk_drewN ?_ _ | refine blk_drew ?_ | refine blk_alloc ?_ _)); exact BK312.out) hb); have n2_ := Aside0.mk (below_step (by repeat (first | (with_reducible first | exact HB.out | apply below_alloc | apply pw_below_drewN | apply below_drew1 | refine below_set ?_ GE303.out | refine below_set ?_ GE312.out) | exact HB.out)) hb); clear BK303; clear BK312; clear HB; have BK303 := n0_; have BK312 := n1_; have HB := n2_; clear n0_ n1_ n2_; (try clear hb); (try clear hb2); (try clear hk); (try clear hi)))
        go_ret2
        exact ⟨by first | rfl | (simp [errW_none, errW_some] <;> rfl) | (simp [*, errW_none, errW_some] <;> rfl), by repeat (first | (with_reducible first | exact HB.out | apply below_alloc | apply pw_below_drewN | apply below_drew1 | refine below_set ?_ GE303.out | refine below_set ?_ GE312.out) | exact HB.out)⟩

end Go.Proofs.YtmcodbgbjjldnaaDoor.Pr
