import Derived.Test.YtnbkjlebphmpnaaDoorPrx0
import Derived.Test.YtnbkjlebphmpnaaDoorPrx1
import Derived.Test.YtnbkjlebphmpnaaDoorPrx4
import Derived.Test.YtnbkjlebphmpnaaDoorPrx6
import Derived.Test.YtnbkjlebphmpnaaDoorGivA
import Derived.Test.YtnbkjlebphmpnaaDoorGivG
namespace Go.Proofs.YtnbkjlebphmpnaaDoor.Pr
open Go.RowKit Go.Proofs.YtnbkjlebphmpnaaDoorW.PrintWords Go.Proofs.YtnbkjlebphmpnaaDoorW.PrintLast Go.Proofs.YtnbkjlebphmpnaaDoorW.PrintMore
attribute [local go_sem] max2_int min2_int max_two min_two max_three min_three max_four min_four   -- for this text's walks alone
set_option linter.unusedVariables false
set_option linter.unusedSimpArgs false

attribute [local go_sem high] eqA31
mutual
def round_Round.j1 : Nat → Int → Int → Bool → List Int → Int → Int → Int → Int → Int → Int → Int → Int → Int → Option (Int × Int)
  | 0, _, _, _, _, _, _, _, _, _, _, _, _, _ => none
  | k + 1, x0, x1, x304000, x304001, x304002, x304003, x313000, x313001, x313002, x313003, x313004, x313005, x313006 => (round_Nearest.f k x0 x304000 x304000 x304001 x304002 x304003).bind fun bt316 => (if bt316.2.2 = 0 then (if bt316.2.1 = true then ((round_large.f k x313000 x313001 x313002 x313003 x313004 x313005 x313006 x0 x1 x304000).bind fun t319 => (some (t319, 0))) else ((value_Pattern.f x0 x304000 bt316.1).bind fun bt320 => (some (bt320.1, bt320.2)))) else (some (0, bt316.2.2)))
def round_Round.j0 : Nat → Int → Int → Bool → Bool → List Int → Int → Int → Int → Int → Int → Int → Int → Int → Int → Option (Int × Int)
  | 0, _, _, _, _, _, _, _, _, _, _, _, _, _, _ => none
  | k + 1, x0, x1, x21, x304000, x304001, x304002, x304003, x313000, x313001, x313002, x313003, x313004, x313005, x313006 => if x21 = true then (some (0, 1)) else (if x313000 = 4 then (if x304000 = true then (some (x313006, 0)) else ((round_zero.f x304000 x304001 x304002 x304003).bind fun t315 => (if t315 = true then (some (x313006, 0)) else (round_Round.j1 k x0 x1 x304000 x304001 x304002 x304003 x313000 x313001 x313002 x313003 x313004 x313005 x313006)))) else (round_Round.j1 k x0 x1 x304000 x304001 x304002 x304003 x313000 x313001 x313002 x313003 x313004 x313005 x313006))
end
def round_Round.f (k : Nat) (a0 : Int) (a1 : Int) (a2_0 : Bool) (l2_1 : List Int) (a2_2 : Int) (a2_3 : Int) : Option (Int × Int) := (forms_Of.f a0).bind fun bt304 => (if bt304.2.2.2.2.2.2.2 = 0 then (if a1 = 1 then ((exact_Right.f a2_0 l2_1 a2_2 a2_3).bind fun t313 => (round_Round.j0 k a0 a1 (!t313) a2_0 l2_1 a2_2 a2_3 bt304.1 bt304.2.1 bt304.2.2.1 bt304.2.2.2.1 bt304.2.2.2.2.1 bt304.2.2.2.2.2.1 bt304.2.2.2.2.2.2.1)) else (if a1 = 2 then ((exact_Right.f a2_0 l2_1 a2_2 a2_3).bind fun t314 => (round_Round.j0 k a0 a1 (!t314) a2_0 l2_1 a2_2 a2_3 bt304.1 bt304.2.1 bt304.2.2.1 bt304.2.2.2.1 bt304.2.2.2.2.1 bt304.2.2.2.2.2.1 bt304.2.2.2.2.2.2.1)) else (round_Round.j0 k a0 a1 true a2_0 l2_1 a2_2 a2_3 bt304.1 bt304.2.1 bt304.2.2.1 bt304.2.2.2.1 bt304.2.2.2.2.1 bt304.2.2.2.2.2.1 bt304.2.2.2.2.2.2.1))) else (some (0, bt304.2.2.2.2.2.2.2)))
theorem round_Round.mono_l : ∀ k, (∀ y0 y1 y2 y3 y4 y5 y6 y7 y8 y9 y10 y11 y12, LeO (round_Round.j1 k y0 y1 y2 y3 y4 y5 y6 y7 y8 y9 y10 y11 y12) (round_Round.j1 (k + 1) y0 y1 y2 y3 y4 y5 y6 y7 y8 y9 y10 y11 y12)) ∧ (∀ y0 y1 y2 y3 y4 y5 y6 y7 y8 y9 y10 y11 y12 y13, LeO (round_Round.j0 k y0 y1 y2 y3 y4 y5 y6 y7 y8 y9 y10 y11 y12 y13) (round_Round.j0 (k + 1) y0 y1 y2 y3 y4 y5 y6 y7 y8 y9 y10 y11 y12 y13))
  | 0 => ⟨fun _ _ _ _ _ _ _ _ _ _ _ _ _ r h => by simp [round_Round.j1] at h, fun _ _ _ _ _ _ _ _ _ _ _ _ _ _ r h => by simp [round_Round.j0] at h⟩
  | k + 1 => by
    obtain ⟨ih0, ih1⟩ := round_Round.mono_l k
    refine ⟨?_, ?_⟩
    · intro y0 y1 y2 y3 y4 y5 y6 y7 y8 y9 y10 y11 y12
      unfold round_Round.j1
      repeat' first
      | (with_reducible exact ih0 _ _ _ _ _ _ _ _ _ _ _ _ _)
      | (with_reducible exact ih1 _ _ _ _ _ _ _ _ _ _ _ _ _ _)
      | (with_reducible exact round_Nearest.mono _ _ _ _ _ _ _)
      | (with_reducible exact round_large.mono _ _ _ _ _ _ _ _ _ _ _)
      | (with_reducible exact LeO.refl _)
      | (with_reducible exact LeO.none _)
      | (with_reducible refine LeO.ite ?_ ?_)
      | (with_reducible refine LeO.bind ?_ (fun _ => ?_))
      | exact ih0 _ _ _ _ _ _ _ _ _ _ _ _ _
      | exact ih1 _ _ _ _ _ _ _ _ _ _ _ _ _ _
      | exact round_Nearest.mono _ _ _ _ _ _ _
      | exact round_large.mono _ _ _ _ _ _ _ _ _ _ _
      | exact LeO.none _
      | refine LeO.ite ?_ ?_
      | refine LeO.bind ?_ (fun _ => ?_)
    · intro y0 y1 y2 y3 y4 y5 y6 y7 y8 y9 y10 y11 y12 y13
      unfold round_Round.j0
      repeat' first
      | (with_reducible exact ih0 _ _ _ _ _ _ _ _ _ _ _ _ _)
      | (with_reducible exact ih1 _ _ _ _ _ _ _ _ _ _ _ _ _ _)
      | (with_reducible exact round_Nearest.mono _ _ _ _ _ _ _)
      | (with_reducible exact round_large.mono _ _ _ _ _ _ _ _ _ _ _)
      | (with_reducible exact LeO.refl _)
      | (with_reducible exact LeO.none _)
      | (with_reducible refine LeO.ite ?_ ?_)
      | (with_reducible refine LeO.bind ?_ (fun _ => ?_))
      | exact ih0 _ _ _ _ _ _ _ _ _ _ _ _ _
      | exact ih1 _ _ _ _ _ _ _ _ _ _ _ _ _ _
      | exact round_Nearest.mono _ _ _ _ _ _ _
      | exact round_large.mono _ _ _ _ _ _ _ _ _ _ _
      | exact LeO.none _
      | refine LeO.ite ?_ ?_
      | refine LeO.bind ?_ (fun _ => ?_)
theorem round_Round.mono : ∀ a0 a1 a2 a3 a4 a5 k, LeO (round_Round.f k a0 a1 a2 a3 a4 a5) (round_Round.f (k + 1) a0 a1 a2 a3 a4 a5) := by
  intro a0 a1 a2 a3 a4 a5 k
  obtain ⟨ih0, ih1⟩ := round_Round.mono_l k
  unfold round_Round.f
  repeat' first
      | (with_reducible exact ih0 _ _ _ _ _ _ _ _ _ _ _ _ _)
      | (with_reducible exact ih1 _ _ _ _ _ _ _ _ _ _ _ _ _ _)
      | (with_reducible exact round_Nearest.mono _ _ _ _ _ _ _)
      | (with_reducible exact round_large.mono _ _ _ _ _ _ _ _ _ _ _)
      | (with_reducible exact LeO.refl _)
      | (with_reducible exact LeO.none _)
      | (with_reducible refine LeO.ite ?_ ?_)
      | (with_reducible refine LeO.bind ?_ (fun _ => ?_))
      | exact ih0 _ _ _ _ _ _ _ _ _ _ _ _ _
      | exact ih1 _ _ _ _ _ _ _ _ _ _ _ _ _ _
      | exact round_Nearest.mono _ _ _ _ _ _ _
      | exact round_large.mono _ _ _ _ _ _ _ _ _ _ _
      | exact LeO.none _
      | refine LeO.ite ?_ ?_
      | refine LeO.bind ?_ (fun _ => ?_)
set_option maxHeartbeats 8000000 in
set_option maxRecDepth 100000 in
theorem round_Round.calls (k : Nat) (a0 : Int) (a1 : Int) (a2_0 : Bool) (A2_1 : Option Addr) (c2_1 : Nat) (l2_1 : List Int) (a2_2 : Int) (a2_3 : Int) (r1 : Int) (r2 : Int) (w : World) (hG : Glob w) (hr2_1 : Kd.C (Kd.int .u64) w A2_1 l2_1.length l2_1) (hc2_1 : l2_1.length ≤ c2_1) (h : round_Round.f k a0 a1 a2_0 l2_1 a2_2 a2_3 = some (r1, r2)) :
    Calls Tryd.prog 15 #[.int .i64 a0, .int .i64 a1, .agg #[.bool a2_0, .slice A2_1 l2_1.length c2_1, .int .i64 a2_2, .int .i64 a2_3]] w fun e w' => e = .returned (.tuple #[.int .u64 r1, .int .i64 r2]) ∧ Below w.heap.size w w' := by
  have hu37 := Tryd.underlying37
  have hu44 := Tryd.underlying44
  have HR2_1 := Aside0.mk hr2_1
  have HC2_1 := Aside0.mk hc2_1
  clear hr2_1 hc2_1
  have HG := Aside0.mk hG
  clear hG
  have HB := Aside0.mk (Below.refl w.heap.size w)
  have H : ((forms_Of.f a0).bind fun bt304 => (if bt304.2.2.2.2.2.2.2 = 0 then (if a1 = 1 then ((exact_Right.f a2_0 l2_1 a2_2 a2_3).bind fun t313 => (round_Round.j0 k a0 a1 (!t313) a2_0 l2_1 a2_2 a2_3 bt304.1 bt304.2.1 bt304.2.2.1 bt304.2.2.2.1 bt304.2.2.2.2.1 bt304.2.2.2.2.2.1 bt304.2.2.2.2.2.2.1)) else (if a1 = 2 then ((exact_Right.f a2_0 l2_1 a2_2 a2_3).bind fun t314 => (round_Round.j0 k a0 a1 (!t314) a2_0 l2_1 a2_2 a2_3 bt304.1 bt304.2.1 bt304.2.2.1 bt304.2.2.2.1 bt304.2.2.2.2.1 bt304.2.2.2.2.2.1 bt304.2.2.2.2.2.2.1)) else (round_Round.j0 k a0 a1 true a2_0 l2_1 a2_2 a2_3 bt304.1 bt304.2.1 bt304.2.2.1 bt304.2.2.2.1 bt304.2.2.2.2.1 bt304.2.2.2.2.2.1 bt304.2.2.2.2.2.2.1))) else (some (0, bt304.2.2.2.2.2.2.2)))) = some (r1, r2) := h
  clear h
  replace H := Option.bind_eq_some_iff.mp H
  obtain ⟨⟨t304, t305, t306, t307, t308, t309, t310, t311⟩, A40, H⟩ := H
  replace H : (if t311 = 0 then (if a1 = 1 then ((exact_Right.f a2_0 l2_1 a2_2 a2_3).bind fun t313 => (round_Round.j0 k a0 a1 (!t313) a2_0 l2_1 a2_2 a2_3 t304 t305 t306 t307 t308 t309 t310)) else (if a1 = 2 then ((exact_Right.f a2_0 l2_1 a2_2 a2_3).bind fun t314 => (round_Round.j0 k a0 a1 (!t314) a2_0 l2_1 a2_2 a2_3 t304 t305 t306 t307 t308 t309 t310)) else (round_Round.j0 k a0 a1 true a2_0 l2_1 a2_2 a2_3 t304 t305 t306 t307 t308 t309 t310))) else (some (0, t311))) = some (r1, r2) := H
  have A4 := Aside0.mk A40
  clear A40
  have HC5 := Aside0.mk H
  clear H
  go_enter Tryd.func15, Tryd.ntmps15
  go_upto_block 0 with (first | ((with_reducible refine gate_dst (N := 5) rfl ?_); refine box_event ?hg (N := 5) ?hd (cs := #[.bool a2_0, .slice A2_1 l2_1.length c2_1, .int .i64 a2_2, .int .i64 a2_3]) (t := 37) ?hr ?_; (case hd => rfl); (case hg => rfl); (case hr => first | (go_simp; done) | (go_simp; rfl)); intro gb303 hg w6 hbox hb; have n0_ := Aside0.mk (below_step (by repeat (first | (with_reducible first | exact HB.out | apply below_alloc | apply pw_below_drewN | apply below_drew1) | exact HB.out)) hb); have n1_ := Aside0.mk (hbox); have n2_ := Aside0.mk ((by rw [hg]; exact (below_size (by repeat (first | (with_reducible first | exact HB.out | apply below_alloc | apply pw_below_drewN | apply below_drew1) | exact HB.out))) : w.heap.size ≤ gb303)); have n3_ := Aside0.mk ((by rw [hg]; exact (below_size (by repeat (first | (with_reducible first | exact HB.out | apply below_alloc | apply pw_below_drewN | apply below_drew1) | exact HB.out))) : w.heap.size ≤ gb303)); clear HB; have HB := n0_; have BK303 := n1_; have GW303 := n2_; have GE303 := n3_; clear n0_ n1_ n2_ n3_; clear hb hbox hg) | ((with_reducible refine gate_callee (f := 16) rfl ?_); refine goesL_ (some 14) rfl rfl Tryd.func16 (by kernel_rfl) rfl #[.int .i64 a0] rfl (by (try simp only [List.map_toArray, List.map_cons, List.map_nil]); first | done | rfl | (simp only [List.length_drop, List.length_take]; rfl)) ?_; (with_reducible refine (forms_Of.calls a0 t304 t305 t306 t307 t308 t309 t310 t311 _ ?side1 A4.out).mono ?_); (case side1 => exact Glob.below HG.out (by repeat (first | (with_reducible first | exact HB.out | apply below_alloc | apply pw_below_drewN | apply below_drew1 | refine below_set ?_ GE303.out) | exact HB.out))); rintro e w7 ⟨rfl, hb⟩; refine ⟨_, rfl, ?_⟩; have n0_ := Aside0.mk (blk_below (g := gb303) (o := .cells #[.bool a2_0, .slice A2_1 l2_1.length c2_1, .int .i64 a2_2, .int .i64 a2_3] 37 (0, 0)) (by (with_reducible repeat (first | refine blk_drewN ?_ _ | refine blk_drew ?_ | refine blk_alloc ?_ _)); exact BK303.out) hb); have n1_ := Aside0.mk (below_step (by repeat (first | (with_reducible first | exact HB.out | apply below_alloc | apply pw_below_drewN | apply below_drew1 | refine below_set ?_ GE303.out) | exact HB.out)) hb); clear BK303; clear HB; have BK303 := n0_; have HB := n1_; clear n0_ n1_; (try clear hb); (try clear hb2); (try clear hk); (try clear hi)) | ((with_reducible refine gate_dst (N := 8) rfl ?_); refine box_event ?hg (N := 8) ?hd (cs := #[.int .i64 0, .int .i64 0, .int .i64 0, .int .i64 0, .int .u64 0, .int .u64 0, .int .u64 0]) (t := 44) ?hr ?_; (case hd => rfl); (case hg => rfl); (case hr => first | (go_simp; done) | (go_simp; rfl)); intro gb312 hg w8 hbox hb; have n0_ := Aside0.mk (blk_below (g := gb303) (o := .cells #[.bool a2_0, .slice A2_1 l2_1.length c2_1, .int .i64 a2_2, .int .i64 a2_3] 37 (0, 0)) (by (with_reducible repeat (first | refine blk_drewN ?_ _ | refine blk_drew ?_ | refine blk_alloc ?_ _)); exact BK303.out) hb); have n1_ := Aside0.mk (below_step (by repeat (first | (with_reducible first | exact HB.out | apply below_alloc | apply pw_below_drewN | apply below_drew1 | refine below_set ?_ GE303.out) | exact HB.out)) hb); have n2_ := Aside0.mk (hbox); have n3_ := Aside0.mk ((by rw [hg]; exact (below_size (by repeat (first | (with_reducible first | exact HB.out | apply below_alloc | apply pw_below_drewN | apply below_drew1 | refine below_set ?_ GE303.out) | exact HB.out))) : w.heap.size ≤ gb312)); have n4_ := Aside0.mk ((by rw [hg]; exact (below_size (by repeat (first | (with_reducible first | exact HB.out | apply below_alloc | apply pw_below_drewN | apply below_drew1 | refine below_set ?_ GE303.out) | exact HB.out))) : w.heap.size ≤ gb312)); have n5_ := Aside0.mk ((by rw [hg]; exact Nat.ne_of_lt (blk_lt (g := gb303) (o := .cells #[.bool a2_0, .slice A2_1 l2_1.length c2_1, .int .i64 a2_2, .int .i64 a2_3] 37 (0, 0)) (by (with_reducible repeat (first | refine blk_drewN ?_ _ | refine blk_drew ?_ | refine blk_alloc ?_ _)); exact BK303.out)) : gb303 ≠ gb312)); have n6_ := Aside0.mk ((by rw [hg]; exact Nat.ne_of_gt (blk_lt (g := gb303) (o := .cells #[.bool a2_0, .slice A2_1 l2_1.length c2_1, .int .i64 a2_2, .int .i64 a2_3] 37 (0, 0)) (by (with_reducible repeat (first | refine blk_drewN ?_ _ | refine blk_drew ?_ | refine blk_alloc ?_ _)); exact BK303.out)) : gb312 ≠ gb303)); clear BK303; clear HB; have BK303 := n0_; have HB := n1_; have BK312 := n2_; have GW312 := n3_; have GE312 := n4_; have NB303_312 := n5_; have NB312_303 := n6_; clear n0_ n1_ n2_ n3_ n4_ n5_ n6_; clear hb hbox hg; have hnb9 := NB312_303.out; have hnc9 := NB303_312.out; have hcz10_0 : w8.cell? ⟨gb312, 0, none⟩ = some (.int .i64 0) := (blk_cell BK312.out 0).trans rfl; have hcz10_1 : w8.cell? ⟨gb312, 1, none⟩ = some (.int .i64 0) := (blk_cell BK312.out 1).trans rfl; have hcz10_2 : w8.cell? ⟨gb312, 2, none⟩ = some (.int .i64 0) := (blk_cell BK312.out 2).trans rfl; have hcz10_3 : w8.cell? ⟨gb312, 3, none⟩ = some (.int .i64 0) := (blk_cell BK312.out 3).trans rfl; have hcz10_4 : w8.cell? ⟨gb312, 4, none⟩ = some (.int .u64 0) := (blk_cell BK312.out 4).trans rfl; have hcz10_5 : w8.cell? ⟨gb312, 5, none⟩ = some (.int .u64 0) := (blk_cell BK312.out 5).trans rfl; have hcz10_6 : w8.cell? ⟨gb312, 6, none⟩ = some (.int .u64 0) := (blk_cell BK312.out 6).trans rfl; have hfz10_0 := blk_frozen BK312.out 0; have hfz10_1 := blk_frozen BK312.out 1; have hfz10_2 := blk_frozen BK312.out 2; have hfz10_3 := blk_frozen BK312.out 3; have hfz10_4 := blk_frozen BK312.out 4; have hfz10_5 := blk_frozen BK312.out 5; have hfz10_6 := blk_frozen BK312.out 6))
  (try simp only [Act.put, List.setIfInBounds_toArray, List.set_cons_zero, List.set_cons_succ])
  go_cut [] (fun wc => ∃ (kq : Nat), Aside0 (round_Round.j1 kq a0 a1 a2_0 l2_1 a2_2 a2_3 t304 t305 t306 t307 t308 t309 t310 = some (r1, r2)) ∧ Aside0 (kq ≤ k) ∧ Aside0 (wc.heap[gb303]? = some (.cells #[.bool a2_0, (.slice A2_1 l2_1.length c2_1), .int .i64 a2_2, .int .i64 a2_3] 37 (0, 0))) ∧ Aside0 (wc.heap[gb312]? = some (.cells #[.int .i64 t304, .int .i64 t305, .int .i64 t306, .int .i64 t307, .int .u64 t308, .int .u64 t309, .int .u64 t310] 44 (0, 0))) ∧ Aside0 (Below w.heap.size w wc))
  case first =>
    have H := HC5.out
    clear HC5
    by_cases c11 : t311 = 0
    · rw [if_pos c11] at H
      have c11b0 : (t311 == 0) = true := beq_iff_eq.mpr c11
      have c11b1 : (t311 != 0) = false := bne_eq_false_iff_eq.mpr c11
      clear c11
      (first | rw [c11b0] | (simp only [i64_w, i32_w]; rw [c11b0]) | skip)
      have HC12 := Aside0.mk H
      clear H
      go_upto_region 4 with (fail)
      go_cut [21] (fun v21 wc => ∃ (kq : Nat) (x21_11 : Bool), v21 = .bool x21_11 ∧ Aside0 (round_Round.j0 kq a0 a1 x21_11 a2_0 l2_1 a2_2 a2_3 t304 t305 t306 t307 t308 t309 t310 = some (r1, r2)) ∧ Aside0 (kq ≤ k) ∧ Aside0 (wc.heap[gb303]? = some (.cells #[.bool a2_0, (.slice A2_1 l2_1.length c2_1), .int .i64 a2_2, .int .i64 a2_3] 37 (0, 0))) ∧ Aside0 (wc.heap[gb312]? = some (.cells #[.int .i64 t304, .int .i64 t305, .int .i64 t306, .int .i64 t307, .int .u64 t308, .int .u64 t309, .int .u64 t310] 44 (0, 0))) ∧ Aside0 (Below w.heap.size w wc))
      case first =>
        have H := HC12.out
        clear HC12
        by_cases c13 : a1 = 1
        · rw [if_pos c13] at H
          have c13b0 : (a1 == 1) = true := beq_iff_eq.mpr c13
          have c13b1 : (a1 != 1) = false := bne_eq_false_iff_eq.mpr c13
          clear c13
          (first | rw [c13b0] | (simp only [i64_w, i32_w]; rw [c13b0]) | skip)
          replace H := Option.bind_eq_some_iff.mp H
          obtain ⟨t313, A140, H⟩ := H
          replace H : (round_Round.j0 k a0 a1 (!t313) a2_0 l2_1 a2_2 a2_3 t304 t305 t306 t307 t308 t309 t310) = some (r1, r2) := H
          have A14 := Aside0.mk A140
          clear A140
          have H' := Aside0.mk H
          clear H
          have hnb15 := NB303_312.out
          have hnc15 := NB312_303.out
          have hcz16_0 : w8.cell? ⟨gb303, 0, none⟩ = some (.bool a2_0) := (blk_cell BK303.out 0).trans rfl
          have hcz16_1 : w8.cell? ⟨gb303, 1, none⟩ = some (.slice A2_1 l2_1.length c2_1) := (blk_cell BK303.out 1).trans rfl
          have hcz16_2 : w8.cell? ⟨gb303, 2, none⟩ = some (.int .i64 a2_2) := (blk_cell BK303.out 2).trans rfl
          have hcz16_3 : w8.cell? ⟨gb303, 3, none⟩ = some (.int .i64 a2_3) := (blk_cell BK303.out 3).trans rfl
          have hfz16_0 := blk_frozen BK303.out 0
          have hfz16_1 := blk_frozen BK303.out 1
          have hfz16_2 := blk_frozen BK303.out 2
          have hfz16_3 := blk_frozen BK303.out 3
          go_wp2_with (first | (go_at_call 27; (with_reducible refine (exact_Right.calls a2_0 _ _ l2_1 a2_2 a2_3 t313 _ ?side1 ?side2 A14.out).mono ?_); (case side1 => exact Kd.C_below HR2_1.out (by repeat (first | (with_reducible first | exact HB.out | apply below_alloc | apply pw_below_drewN | apply below_drew1 | refine below_set ?_ GE303.out | refine below_set ?_ GE312.out) | exact HB.out))); (case side2 => exact HC2_1.out); rintro e w17 ⟨rfl, hb⟩; have n0_ := Aside0.mk (blk_below (g := gb303) (o := .cells #[.bool a2_0, .slice A2_1 l2_1.length c2_1, .int .i64 a2_2, .int .i64 a2_3] 37 (0, 0)) (by (with_reducible repeat (first | refine blk_drewN ?_ _ | refine blk_drew ?_ | refine blk_alloc ?_ _)); refine blk_far ?_ NB303_312.out _; (with_reducible repeat (first | refine blk_drewN ?_ _ | refine blk_drew ?_ | refine blk_alloc ?_ _)); refine blk_far ?_ NB303_312.out _; (with_reducible repeat (first | refine blk_drewN ?_ _ | refine blk_drew ?_ | refine blk_alloc ?_ _)); refine blk_far ?_ NB303_312.out _; (with_reducible repeat (first | refine blk_drewN ?_ _ | refine blk_drew ?_ | refine blk_alloc ?_ _)); refine blk_far ?_ NB303_312.out _; (with_reducible repeat (first | refine blk_drewN ?_ _ | refine blk_drew ?_ | refine blk_alloc ?_ _)); refine blk_far ?_ NB303_312.out _; (with_reducible repeat (first | refine blk_drewN ?_ _ | refine blk_drew ?_ | refine blk_alloc ?_ _)); refine blk_far ?_ NB303_312.out _; (with_reducible repeat (first | refine blk_drewN ?_ _ | refine blk_drew ?_ | refine blk_alloc ?_ _)); refine blk_far ?_ NB303_312.out _; (with_reducible repeat (first | refine blk_drewN ?_ _ | refine blk_drew ?_ | refine blk_alloc ?_ _)); exact BK303.out) hb); have n1_ := Aside0.mk (blk_below (g := gb312) (o := .cells #[.int .i64 t304, .int .i64 t305, .int .i64 t306, .int .i64 t307, .int .u64 t308, .int .u64 t309, .int .u64 t310] 44 (0, 0)) (by (with_reducible repeat (first | refine blk_drewN ?_ _ | refine blk_drew ?_ | refine blk_alloc ?_ _)); refine blk_put (cs := #[.int .i64 t304, .int .i64 t305, .int .i64 t306, .int .i64 t307, .int .u64 t308, .int .u64 t309, .int .u64 0]) ?_ 6 _ rfl; (with_reducible repeat (first | refine blk_drewN ?_ _ | refine blk_drew ?_ | refine blk_alloc ?_ _)); refine blk_put (cs := #[.int .i64 t304, .int .i64 t305, .int .i64 t306, .int .i64 t307, .int .u64 t308, .int .u64 0, .int .u64 0]) ?_ 5 _ rfl; (with_reducible repeat (first | refine blk_drewN ?_ _ | refine blk_drew ?_ | refine blk_alloc ?_ _)); refine blk_put (cs := #[.int .i64 t304, .int .i64 t305, .int .i64 t306, .int .i64 t307, .int .u64 0, .int .u64 0, .int .u64 0]) ?_ 4 _ rfl; (with_reducible repeat (first | refine blk_drewN ?_ _ | refine blk_drew ?_ | refine blk_alloc ?_ _)); refine blk_put (cs := #[.int .i64 t304, .int .i64 t305, .int .i64 t306, .int .i64 0, .int .u64 0, .int .u64 0, .int .u64 0]) ?_ 3 _ rfl; (with_reducible repeat (first | refine blk_drewN ?_ _ | refine blk_drew ?_ | refine blk_alloc ?_ _)); refine blk_put (cs := #[.int .i64 t304, .int .i64 t305, .int .i64 0, .int .i64 0, .int .u64 0, .int .u64 0, .int .u64 0]) ?_ 2 _ rfl; (with_reducible repeat (first | refine blk_drewN ?_ _ | refine blk_drew ?_ | refine blk_alloc ?_ _)); refine blk_put (cs := #[.int .i64 t304, .int .i64 0, .int .i64 0, .int .i64 0, .int .u64 0, .int .u64 0, .int .u64 0]) ?_ 1 _ rfl; (with_reducible repeat (first | refine blk_drewN ?_ _ | refine blk_drew ?_ | refine blk_alloc ?_ _)); refine blk_put (cs := #[.int .i64 0, .int .i64 0, .int .i64 0, .int .i64 0, .int .u64 0, .int .u64 0, .int .u64 0]) ?_ 0 _ rfl; (with_reducible repeat (first | refine blk_drewN ?_ _ | refine blk_drew ?_ | refine blk_alloc ?_ _)); exact BK312.out) hb); have n2_ := Aside0.mk (below_step (by repeat (first | (with_reducible first | exact HB.out | apply below_alloc | apply pw_below_drewN | apply below_drew1 | refine below_set ?_ GE303.out | refine below_set ?_ GE312.out) | exact HB.out)) hb); clear BK303; clear BK312; clear HB; have BK303 := n0_; have BK312 := n1_; have HB := n2_; clear n0_ n1_ n2_; (try clear hb); (try clear hb2); (try clear hk); (try clear hi)))
          go_meet
          case rel => exact ⟨_, (!t313), (by first | rfl | (simp; done) | (simp [*]; done)), H', ⟨by first | omega | exact Nat.le_refl _⟩, ⟨by (with_reducible repeat (first | refine blk_drewN ?_ _ | refine blk_drew ?_ | refine blk_alloc ?_ _)); exact BK303.out⟩, ⟨by (with_reducible repeat (first | refine blk_drewN ?_ _ | refine blk_drew ?_ | refine blk_alloc ?_ _)); exact BK312.out⟩, ⟨by repeat (first | (with_reducible first | exact HB.out | apply below_alloc | apply pw_below_drewN | apply below_drew1 | refine below_set ?_ GE303.out | refine below_set ?_ GE312.out) | exact HB.out)⟩⟩
        · rw [if_neg c13] at H
          have c13b0 : (a1 == 1) = false := beq_eq_false_iff_ne.mpr c13
          have c13b1 : (a1 != 1) = true := bne_iff_ne.mpr c13
          (first | rw [c13b0] | (simp only [i64_w, i32_w]; rw [c13b0]) | skip)
          by_cases c18 : a1 = 2
          · rw [if_pos c18] at H
            have c18b0 : (a1 == 2) = true := beq_iff_eq.mpr c18
            have c18b1 : (a1 != 2) = false := bne_eq_false_iff_eq.mpr c18
            clear c18
            replace H := Option.bind_eq_some_iff.mp H
            obtain ⟨t314, A190, H⟩ := H
            replace H : (round_Round.j0 k a0 a1 (!t314) a2_0 l2_1 a2_2 a2_3 t304 t305 t306 t307 t308 t309 t310) = some (r1, r2) := H
            have A19 := Aside0.mk A190
            clear A190
            have H' := Aside0.mk H
            clear H
            have hnb20 := NB303_312.out
            have hnc20 := NB312_303.out
            have hcz21_0 : w8.cell? ⟨gb303, 0, none⟩ = some (.bool a2_0) := (blk_cell BK303.out 0).trans rfl
            have hcz21_1 : w8.cell? ⟨gb303, 1, none⟩ = some (.slice A2_1 l2_1.length c2_1) := (blk_cell BK303.out 1).trans rfl
            have hcz21_2 : w8.cell? ⟨gb303, 2, none⟩ = some (.int .i64 a2_2) := (blk_cell BK303.out 2).trans rfl
            have hcz21_3 : w8.cell? ⟨gb303, 3, none⟩ = some (.int .i64 a2_3) := (blk_cell BK303.out 3).trans rfl
            have hfz21_0 := blk_frozen BK303.out 0
            have hfz21_1 := blk_frozen BK303.out 1
            have hfz21_2 := blk_frozen BK303.out 2
            have hfz21_3 := blk_frozen BK303.out 3
            go_wp2_with (first | (go_at_call 27; (with_reducible refine (exact_Right.calls a2_0 _ _ l2_1 a2_2 a2_3 t314 _ ?side1 ?side2 A19.out).mono ?_); (case side1 => exact Kd.C_below HR2_1.out (by repeat (first | (with_reducible first | exact HB.out | apply below_alloc | apply pw_below_drewN | apply below_drew1 | refine below_set ?_ GE303.out | refine below_set ?_ GE312.out) | exact HB.out))); (case side2 => exact HC2_1.out); rintro e w22 ⟨rfl, hb⟩; have n0_ := Aside0.mk (blk_below (g := gb303) (o := .cells #[.bool a2_0, .slice A2_1 l2_1.length c2_1, .int .i64 a2_2, .int .i64 a2_3] 37 (0, 0)) (by (with_reducible repeat (first | refine blk_drewN ?_ _ | refine blk_drew ?_ | refine blk_alloc ?_ _)); refine blk_far ?_ NB303_312.out _; (with_reducible repeat (first | refine blk_drewN ?_ _ | refine blk_drew ?_ | refine blk_alloc ?_ _)); refine blk_far ?_ NB303_312.out _; (with_reducible repeat (first | refine blk_drewN ?_ _ | refine blk_drew ?_ | refine blk_alloc ?_ _)); refine blk_far ?_ NB303_312.out _; (with_reducible repeat (first | refine blk_drewN ?_ _ | refine blk_drew ?_ | refine blk_alloc ?_ _)); refine blk_far ?_ NB303_312.out _; (with_reducible repeat (first | refine blk_drewN ?_ _ | refine blk_drew ?_ | refine blk_alloc ?_ _)); refine blk_far ?_ NB303_312.out _; (with_reducible repeat (first | refine blk_drewN ?_ _ | refine blk_drew ?_ | refine blk_alloc ?_ _)); refine blk_far ?_ NB303_312.out _; (with_reducible repeat (first | refine blk_drewN ?_ _ | refine blk_drew ?_ | refine blk_alloc ?_ _)); refine blk_far ?_ NB303_312.out _; (with_reducible repeat (first | refine blk_drewN ?_ _ | refine blk_drew ?_ | refine blk_alloc ?_ _)); exact BK303.out) hb); have n1_ := Aside0.mk (blk_below (g := gb312) (o := .cells #[.int .i64 t304, .int .i64 t305, .int .i64 t306, .int .i64 t307, .int .u64 t308, .int .u64 t309, .int .u64 t310] 44 (0, 0)) (by (with_reducible repeat (first | refine blk_drewN ?_ _ | refine blk_drew ?_ | refine blk_alloc ?_ _)); refine blk_put (cs := #[.int .i64 t304, .int .i64 t305, .int .i64 t306, .int .i64 t307, .int .u64 t308, .int .u64 t309, .int .u64 0]) ?_ 6 _ rfl; (with_reducible repeat (first | refine blk_drewN ?_ _ | refine blk_drew ?_ | refine blk_alloc ?_ _)); refine blk_put (cs := #[.int .i64 t304, .int .i64 t305, .int .i64 t306, .int .i64 t307, .int .u64 t308, .int .u64 0, .int .u64 0]) ?_ 5 _ rfl; (with_reducible repeat (first | refine blk_drewN ?_ _ | refine blk_drew ?_ | refine blk_alloc ?_ _)); refine blk_put (cs := #[.int .i64 t304, .int .i64 t305, .int .i64 t306, .int .i64 t307, .int .u64 0, .int .u64 0, .int .u64 0]) ?_ 4 _ rfl; (with_reducible repeat (first | refine blk_drewN ?_ _ | refine blk_drew ?_ | refine blk_alloc ?_ _)); refine blk_put (cs := #[.int .i64 t304, .int .i64 t305, .int .i64 t306, .int .i64 0, .int .u64 0, .int .u64 0, .int .u64 0]) ?_ 3 _ rfl; (with_reducible repeat (first | refine blk_drewN ?_ _ | refine blk_drew ?_ | refine blk_alloc ?_ _)); refine blk_put (cs := #[.int .i64 t304, .int .i64 t305, .int .i64 0, .int .i64 0, .int .u64 0, .int .u64 0, .int .u64 0]) ?_ 2 _ rfl; (with_reducible repeat (first | refine blk_drewN ?_ _ | refine blk_drew ?_ | refine blk_alloc ?_ _)); refine blk_put (cs := #[.int .i64 t304, .int .i64 0, .int .i64 0, .int .i64 0, .int .u64 0, .int .u64 0, .int .u64 0]) ?_ 1 _ rfl; (with_reducible repeat (first | refine blk_drewN ?_ _ | refine blk_drew ?_ | refine blk_alloc ?_ _)); refine blk_put (cs := #[.int .i64 0, .int .i64 0, .int .i64 0, .int .i64 0, .int .u64 0, .int .u64 0, .int .u64 0]) ?_ 0 _ rfl; (with_reducible repeat (first | refine blk_drewN ?_ _ | refine blk_drew ?_ | refine blk_alloc ?_ _)); exact BK312.out) hb); have n2_ := Aside0.mk (below_step (by repeat (first | (with_reducible first | exact HB.out | apply below_alloc | apply pw_below_drewN | apply below_drew1 | refine below_set ?_ GE303.out | refine below_set ?_ GE312.out) | exact HB.out)) hb); clear BK303; clear BK312; clear HB; have BK303 := n0_; have BK312 := n1_; have HB := n2_; clear n0_ n1_ n2_; (try clear hb); (try clear hb2); (try clear hk); (try clear hi)))
            go_meet
            case rel => exact ⟨_, (!t314), (by first | rfl | (simp; done) | (simp [*]; done)), H', ⟨by first | omega | exact Nat.le_refl _⟩, ⟨by (with_reducible repeat (first | refine blk_drewN ?_ _ | refine blk_drew ?_ | refine blk_alloc ?_ _)); exact BK303.out⟩, ⟨by (with_reducible repeat (first | refine blk_drewN ?_ _ | refine blk_drew ?_ | refine blk_alloc ?_ _)); exact BK312.out⟩, ⟨by repeat (first | (with_reducible first | exact HB.out | apply below_alloc | apply pw_below_drewN | apply below_drew1 | refine below_set ?_ GE303.out | refine below_set ?_ GE312.out) | exact HB.out)⟩⟩
          · rw [if_neg c18] at H
            have c18b0 : (a1 == 2) = false := beq_eq_false_iff_ne.mpr c18
            have c18b1 : (a1 != 2) = true := bne_iff_ne.mpr c18
            have H' := Aside0.mk H
            clear H
            go_wp2
            go_meet
            case rel => exact ⟨_, (true), (by first | rfl | (simp; done) | (simp [*]; done)), H', ⟨by first | omega | exact Nat.le_refl _⟩, ⟨by (with_reducible repeat (first | refine blk_drewN ?_ _ | refine blk_drew ?_ | refine blk_alloc ?_ _)); refine blk_far ?_ NB303_312.out _; (with_reducible repeat (first | refine blk_drewN ?_ _ | refine blk_drew ?_ | refine blk_alloc ?_ _)); refine blk_far ?_ NB303_312.out _; (with_reducible repeat (first | refine blk_drewN ?_ _ | refine blk_drew ?_ | refine blk_alloc ?_ _)); refine blk_far ?_ NB303_312.out _; (with_reducible repeat (first | refine blk_drewN ?_ _ | refine blk_drew ?_ | refine blk_alloc ?_ _)); refine blk_far ?_ NB303_312.out _; (with_reducible repeat (first | refine blk_drewN ?_ _ | refine blk_drew ?_ | refine blk_alloc ?_ _)); refine blk_far ?_ NB303_312.out _; (with_reducible repeat (first | refine blk_drewN ?_ _ | refine blk_drew ?_ | refine blk_alloc ?_ _)); refine blk_far ?_ NB303_312.out _; (with_reducible repeat (first | refine blk_drewN ?_ _ | refine blk_drew ?_ | refine blk_alloc ?_ _)); refine blk_far ?_ NB303_312.out _; (with_reducible repeat (first | refine blk_drewN ?_ _ | refine blk_drew ?_ | refine blk_alloc ?_ _)); exact BK303.out⟩, ⟨by (with_reducible repeat (first | refine blk_drewN ?_ _ | refine blk_drew ?_ | refine blk_alloc ?_ _)); refine blk_put (cs := #[.int .i64 t304, .int .i64 t305, .int .i64 t306, .int .i64 t307, .int .u64 t308, .int .u64 t309, .int .u64 0]) ?_ 6 _ rfl; (with_reducible repeat (first | refine blk_drewN ?_ _ | refine blk_drew ?_ | refine blk_alloc ?_ _)); refine blk_put (cs := #[.int .i64 t304, .int .i64 t305, .int .i64 t306, .int .i64 t307, .int .u64 t308, .int .u64 0, .int .u64 0]) ?_ 5 _ rfl; (with_reducible repeat (first | refine blk_drewN ?_ _ | refine blk_drew ?_ | refine blk_alloc ?_ _)); refine blk_put (cs := #[.int .i64 t304, .int .i64 t305, .int .i64 t306, .int .i64 t307, .int .u64 0, .int .u64 0, .int .u64 0]) ?_ 4 _ rfl; (with_reducible repeat (first | refine blk_drewN ?_ _ | refine blk_drew ?_ | refine blk_alloc ?_ _)); refine blk_put (cs := #[.int .i64 t304, .int .i64 t305, .int .i64 t306, .int .i64 0, .int .u64 0, .int .u64 0, .int .u64 0]) ?_ 3 _ rfl; (with_reducible repeat (first | refine blk_drewN ?_ _ | refine blk_drew ?_ | refine blk_alloc ?_ _)); refine blk_put (cs := #[.int .i64 t304, .int .i64 t305, .int .i64 0, .int .i64 0, .int .u64 0, .int .u64 0, .int .u64 0]) ?_ 2 _ rfl; (with_reducible repeat (first | refine blk_drewN ?_ _ | refine blk_drew ?_ | refine blk_alloc ?_ _)); refine blk_put (cs := #[.int .i64 t304, .int .i64 0, .int .i64 0, .int .i64 0, .int .u64 0, .int .u64 0, .int .u64 0]) ?_ 1 _ rfl; (with_reducible repeat (first | refine blk_drewN ?_ _ | refine blk_drew ?_ | refine blk_alloc ?_ _)); refine blk_put (cs := #[.int .i64 0, .int .i64 0, .int .i64 0, .int .i64 0, .int .u64 0, .int .u64 0, .int .u64 0]) ?_ 0 _ rfl; (with_reducible repeat (first | refine blk_drewN ?_ _ | refine blk_drew ?_ | refine blk_alloc ?_ _)); exact BK312.out⟩, ⟨by repeat (first | (with_reducible first | exact HB.out | apply below_alloc | apply pw_below_drewN | apply below_drew1 | refine below_set ?_ GE303.out | refine below_set ?_ GE312.out) | exact HB.out)⟩⟩
      case rest =>
        clear HC12
        try clear c1
        try clear c2
        try clear p2
        try clear c9
        try clear c11
        try clear c11b0
        try clear c11b1
        try clear c13
        try clear c13b0
        try clear c13b1
        try clear c15
        try clear c16
        try clear c18
        try clear c18b0
        try clear c18b1
        try clear c20
        try clear hcz10_0
        try clear hcz10_1
        try clear hcz10_2
        try clear hcz10_3
        try clear hcz10_4
        try clear hcz10_5
        try clear hcz10_6
        try clear hcz16_0
        try clear hcz16_1
        try clear hcz16_2
        try clear hcz16_3
        try clear hcz21_0
        try clear hcz21_1
        try clear hcz21_2
        try clear hcz21_3
        try clear hfz10_0
        try clear hfz10_1
        try clear hfz10_2
        try clear hfz10_3
        try clear hfz10_4
        try clear hfz10_5
        try clear hfz10_6
        try clear hfz16_0
        try clear hfz16_1
        try clear hfz16_2
        try clear hfz16_3
        try clear hfz21_0
        try clear hfz21_1
        try clear hfz21_2
        try clear hfz21_3
        obtain ⟨kq, x21_11, rfl, HA, HJ11, BK303, BK312, HB⟩ := hcut
        cases kq with
        | zero => exact absurd HA.out (by simp [round_Round.j0])
        | succ kj11 =>
          have H := HA.out
          clear HA
          simp only [round_Round.j0] at H
          by_cases c23 : x21_11 = true
          · subst c23
            have H1 : (some (0, 1)) = some (r1, r2) := by rw [if_pos rfl] at H; exact H
            clear H
            have H := H1
            clear H1
            simp only [Option.some.injEq, Prod.mk.injEq] at H
            obtain ⟨rfl, rfl⟩ := H
            go_wp2
            go_ret2
            exact ⟨by first | rfl | (simp [errW_none, errW_some] <;> rfl) | (simp [*, errW_none, errW_some] <;> rfl), by repeat (first | (with_reducible first | exact HB.out | apply below_alloc | apply pw_below_drewN | apply below_drew1 | refine below_set ?_ GE303.out | refine below_set ?_ GE312.out) | exact HB.out)⟩
          · replace c23 := Bool.eq_false_iff.mpr c23
            subst c23
            have H1 : (if t304 = 4 then (if a2_0 = true then (some (t310, 0)) else ((round_zero.f a2_0 l2_1 a2_2 a2_3).bind fun t315 => (if t315 = true then (some (t310, 0)) else (round_Round.j1 kj11 a0 a1 a2_0 l2_1 a2_2 a2_3 t304 t305 t306 t307 t308 t309 t310)))) else (round_Round.j1 kj11 a0 a1 a2_0 l2_1 a2_2 a2_3 t304 t305 t306 t307 t308 t309 t310)) = some (r1, r2) := by rw [if_neg (show ¬ (false = true) by decide)] at H; exact H
            clear H
            have H := H1
            clear H1
            by_cases c24 : t304 = 4
            · rw [if_pos c24] at H
              have c24b0 : (t304 == 4) = true := beq_iff_eq.mpr c24
              have c24b1 : (t304 != 4) = false := bne_eq_false_iff_eq.mpr c24
              clear c24
              by_cases c25 : a2_0 = true
              · subst c25
                have H1 : (some (t310, 0)) = some (r1, r2) := by rw [if_pos rfl] at H; exact H
                clear H
                have H := H1
                clear H1
                simp only [Option.some.injEq, Prod.mk.injEq] at H
                obtain ⟨rfl, rfl⟩ := H
                have hnb26 := NB312_303.out
                have hnc26 := NB303_312.out
                have hcz27_0 : wc.cell? ⟨gb312, 0, none⟩ = some (.int .i64 t304) := (blk_cell BK312.out 0).trans rfl
                have hcz27_1 : wc.cell? ⟨gb312, 1, none⟩ = some (.int .i64 t305) := (blk_cell BK312.out 1).trans rfl
                have hcz27_2 : wc.cell? ⟨gb312, 2, none⟩ = some (.int .i64 t306) := (blk_cell BK312.out 2).trans rfl
                have hcz27_3 : wc.cell? ⟨gb312, 3, none⟩ = some (.int .i64 t307) := (blk_cell BK312.out 3).trans rfl
                have hcz27_4 : wc.cell? ⟨gb312, 4, none⟩ = some (.int .u64 t308) := (blk_cell BK312.out 4).trans rfl
                have hcz27_5 : wc.cell? ⟨gb312, 5, none⟩ = some (.int .u64 t309) := (blk_cell BK312.out 5).trans rfl
                have hcz27_6 : wc.cell? ⟨gb312, 6, none⟩ = some (.int .u64 t310) := (blk_cell BK312.out 6).trans rfl
                have hfz27_0 := blk_frozen BK312.out 0
                have hfz27_1 := blk_frozen BK312.out 1
                have hfz27_2 := blk_frozen BK312.out 2
                have hfz27_3 := blk_frozen BK312.out 3
                have hfz27_4 := blk_frozen BK312.out 4
                have hfz27_5 := blk_frozen BK312.out 5
                have hfz27_6 := blk_frozen BK312.out 6
                have hcz28_0 : wc.cell? ⟨gb303, 0, none⟩ = some (.bool true) := (blk_cell BK303.out 0).trans rfl
                have hcz28_1 : wc.cell? ⟨gb303, 1, none⟩ = some (.slice A2_1 l2_1.length c2_1) := (blk_cell BK303.out 1).trans rfl
                have hcz28_2 : wc.cell? ⟨gb303, 2, none⟩ = some (.int .i64 a2_2) := (blk_cell BK303.out 2).trans rfl
                have hcz28_3 : wc.cell? ⟨gb303, 3, none⟩ = some (.int .i64 a2_3) := (blk_cell BK303.out 3).trans rfl
                have hfz28_0 := blk_frozen BK303.out 0
                have hfz28_1 := blk_frozen BK303.out 1
                have hfz28_2 := blk_frozen BK303.out 2
                have hfz28_3 := blk_frozen BK303.out 3
                go_wp2
                go_ret2
                exact ⟨by first | rfl | (simp [errW_none, errW_some] <;> rfl) | (simp [*, errW_none, errW_some] <;> rfl), by repeat (first | (with_reducible first | exact HB.out | apply below_alloc | apply pw_below_drewN | apply below_drew1 | refine below_set ?_ GE303.out | refine below_set ?_ GE312.out) | exact HB.out)⟩
              · replace c25 := Bool.eq_false_iff.mpr c25
                subst c25
                have H1 : ((round_zero.f false l2_1 a2_2 a2_3).bind fun t315 => (if t315 = true then (some (t310, 0)) else (round_Round.j1 kj11 a0 a1 false l2_1 a2_2 a2_3 t304 t305 t306 t307 t308 t309 t310))) = some (r1, r2) := by rw [if_neg (show ¬ (false = true) by decide)] at H; exact H
                clear H
                have H := H1
                clear H1
                replace H := Option.bind_eq_some_iff.mp H
                obtain ⟨t315, A290, H⟩ := H
                replace H : (if t315 = true then (some (t310, 0)) else (round_Round.j1 kj11 a0 a1 false l2_1 a2_2 a2_3 t304 t305 t306 t307 t308 t309 t310)) = some (r1, r2) := H
                have A29 := Aside0.mk A290
                clear A290
                by_cases c30 : t315 = true
                · subst c30
                  have H1 : (some (t310, 0)) = some (r1, r2) := by rw [if_pos rfl] at H; exact H
                  clear H
                  have H := H1
                  clear H1
                  simp only [Option.some.injEq, Prod.mk.injEq] at H
                  obtain ⟨rfl, rfl⟩ := H
                  have hnb31 := NB312_303.out
                  have hnc31 := NB303_312.out
                  have hcz32_0 : wc.cell? ⟨gb312, 0, none⟩ = some (.int .i64 t304) := (blk_cell BK312.out 0).trans rfl
                  have hcz32_1 : wc.cell? ⟨gb312, 1, none⟩ = some (.int .i64 t305) := (blk_cell BK312.out 1).trans rfl
                  have hcz32_2 : wc.cell? ⟨gb312, 2, none⟩ = some (.int .i64 t306) := (blk_cell BK312.out 2).trans rfl
                  have hcz32_3 : wc.cell? ⟨gb312, 3, none⟩ = some (.int .i64 t307) := (blk_cell BK312.out 3).trans rfl
                  have hcz32_4 : wc.cell? ⟨gb312, 4, none⟩ = some (.int .u64 t308) := (blk_cell BK312.out 4).trans rfl
                  have hcz32_5 : wc.cell? ⟨gb312, 5, none⟩ = some (.int .u64 t309) := (blk_cell BK312.out 5).trans rfl
                  have hcz32_6 : wc.cell? ⟨gb312, 6, none⟩ = some (.int .u64 t310) := (blk_cell BK312.out 6).trans rfl
                  have hfz32_0 := blk_frozen BK312.out 0
                  have hfz32_1 := blk_frozen BK312.out 1
                  have hfz32_2 := blk_frozen BK312.out 2
                  have hfz32_3 := blk_frozen BK312.out 3
                  have hfz32_4 := blk_frozen BK312.out 4
                  have hfz32_5 := blk_frozen BK312.out 5
                  have hfz32_6 := blk_frozen BK312.out 6
                  have hcz33_0 : wc.cell? ⟨gb303, 0, none⟩ = some (.bool false) := (blk_cell BK303.out 0).trans rfl
                  have hcz33_1 : wc.cell? ⟨gb303, 1, none⟩ = some (.slice A2_1 l2_1.length c2_1) := (blk_cell BK303.out 1).trans rfl
                  have hcz33_2 : wc.cell? ⟨gb303, 2, none⟩ = some (.int .i64 a2_2) := (blk_cell BK303.out 2).trans rfl
                  have hcz33_3 : wc.cell? ⟨gb303, 3, none⟩ = some (.int .i64 a2_3) := (blk_cell BK303.out 3).trans rfl
                  have hfz33_0 := blk_frozen BK303.out 0
                  have hfz33_1 := blk_frozen BK303.out 1
                  have hfz33_2 := blk_frozen BK303.out 2
                  have hfz33_3 := blk_frozen BK303.out 3
                  go_wp2_with (first | (go_at_call 28; (with_reducible refine (round_zero.calls false _ _ l2_1 a2_2 a2_3 true _ ?side1 ?side2 A29.out).mono ?_); (case side1 => repeat (first | exact (Kd.C_below HR2_1.out HB.out) | (with_reducible refine Kd.C_alloc ?_ _) | (with_reducible refine Kd.C_drewN ?_ _) | (with_reducible refine Kd.C_drew ?_))); (case side2 => exact HC2_1.out); rintro e w34 ⟨rfl, hb⟩; have n0_ := Aside0.mk (blk_below (g := gb303) (o := .cells #[.bool false, .slice A2_1 l2_1.length c2_1, .int .i64 a2_2, .int .i64 a2_3] 37 (0, 0)) (by (with_reducible repeat (first | refine blk_drewN ?_ _ | refine blk_drew ?_ | refine blk_alloc ?_ _)); exact BK303.out) hb); have n1_ := Aside0.mk (blk_below (g := gb312) (o := .cells #[.int .i64 t304, .int .i64 t305, .int .i64 t306, .int .i64 t307, .int .u64 t308, .int .u64 t309, .int .u64 t310] 44 (0, 0)) (by (with_reducible repeat (first | refine blk_drewN ?_ _ | refine blk_drew ?_ | refine blk_alloc ?_ _)); exact BK312.out) hb); have n2_ := Aside0.mk (below_step (by repeat (first | (with_reducible first | exact HB.out | apply below_alloc | apply pw_below_drewN | apply below_drew1 | refine below_set ?_ GE303.out | refine below_set ?_ GE312.out) | exact HB.out)) hb); clear BK303; clear BK312; clear HB; have BK303 := n0_; have BK312 := n1_; have HB := n2_; clear n0_ n1_ n2_; (try clear hb); (try clear hb2); (try clear hk); (try clear hi); have hcz35_0 : w34.cell? ⟨gb312, 0, none⟩ = some (.int .i64 t304) := (blk_cell BK312.out 0).trans rfl; have hcz35_1 : w34.cell? ⟨gb312, 1, none⟩ = some (.int .i64 t305) := (blk_cell BK312.out 1).trans rfl; have hcz35_2 : w34.cell? ⟨gb312, 2, none⟩ = some (.int .i64 t306) := (blk_cell BK312.out 2).trans rfl; have hcz35_3 : w34.cell? ⟨gb312, 3, none⟩ = some (.int .i64 t307) := (blk_cell BK312.out 3).trans rfl; have hcz35_4 : w34.cell? ⟨gb312, 4, none⟩ = some (.int .u64 t308) := (blk_cell BK312.out 4).trans rfl; have hcz35_5 : w34.cell? ⟨gb312, 5, none⟩ = some (.int .u64 t309) := (blk_cell BK312.out 5).trans rfl; have hcz35_6 : w34.cell? ⟨gb312, 6, none⟩ = some (.int .u64 t310) := (blk_cell BK312.out 6).trans rfl; have hfz35_0 := blk_frozen BK312.out 0; have hfz35_1 := blk_frozen BK312.out 1; have hfz35_2 := blk_frozen BK312.out 2; have hfz35_3 := blk_frozen BK312.out 3; have hfz35_4 := blk_frozen BK312.out 4; have hfz35_5 := blk_frozen BK312.out 5; have hfz35_6 := blk_frozen BK312.out 6))
                  go_ret2
                  exact ⟨by first | rfl | (simp [errW_none, errW_some] <;> rfl) | (simp [*, errW_none, errW_some] <;> rfl), by repeat (first | (with_reducible first | exact HB.out | apply below_alloc | apply pw_below_drewN | apply below_drew1 | refine below_set ?_ GE303.out | refine below_set ?_ GE312.out) | exact HB.out)⟩
                · replace c30 := Bool.eq_false_iff.mpr c30
                  subst c30
                  have H1 : (round_Round.j1 kj11 a0 a1 false l2_1 a2_2 a2_3 t304 t305 t306 t307 t308 t309 t310) = some (r1, r2) := by rw [if_neg (show ¬ (false = true) by decide)] at H; exact H
                  clear H
                  have H := H1
                  clear H1
                  have H' := Aside0.mk H
                  clear H
                  have hnb36 := NB312_303.out
                  have hnc36 := NB303_312.out
                  have hcz37_0 : wc.cell? ⟨gb312, 0, none⟩ = some (.int .i64 t304) := (blk_cell BK312.out 0).trans rfl
                  have hcz37_1 : wc.cell? ⟨gb312, 1, none⟩ = some (.int .i64 t305) := (blk_cell BK312.out 1).trans rfl
                  have hcz37_2 : wc.cell? ⟨gb312, 2, none⟩ = some (.int .i64 t306) := (blk_cell BK312.out 2).trans rfl
                  have hcz37_3 : wc.cell? ⟨gb312, 3, none⟩ = some (.int .i64 t307) := (blk_cell BK312.out 3).trans rfl
                  have hcz37_4 : wc.cell? ⟨gb312, 4, none⟩ = some (.int .u64 t308) := (blk_cell BK312.out 4).trans rfl
                  have hcz37_5 : wc.cell? ⟨gb312, 5, none⟩ = some (.int .u64 t309) := (blk_cell BK312.out 5).trans rfl
                  have hcz37_6 : wc.cell? ⟨gb312, 6, none⟩ = some (.int .u64 t310) := (blk_cell BK312.out 6).trans rfl
                  have hfz37_0 := blk_frozen BK312.out 0
                  have hfz37_1 := blk_frozen BK312.out 1
                  have hfz37_2 := blk_frozen BK312.out 2
                  have hfz37_3 := blk_frozen BK312.out 3
                  have hfz37_4 := blk_frozen BK312.out 4
                  have hfz37_5 := blk_frozen BK312.out 5
                  have hfz37_6 := blk_frozen BK312.out 6
                  have hcz38_0 : wc.cell? ⟨gb303, 0, none⟩ = some (.bool false) := (blk_cell BK303.out 0).trans rfl
                  have hcz38_1 : wc.cell? ⟨gb303, 1, none⟩ = some (.slice A2_1 l2_1.length c2_1) := (blk_cell BK303.out 1).trans rfl
                  have hcz38_2 : wc.cell? ⟨gb303, 2, none⟩ = some (.int .i64 a2_2) := (blk_cell BK303.out 2).trans rfl
                  have hcz38_3 : wc.cell? ⟨gb303, 3, none⟩ = some (.int .i64 a2_3) := (blk_cell BK303.out 3).trans rfl
                  have hfz38_0 := blk_frozen BK303.out 0
                  have hfz38_1 := blk_frozen BK303.out 1
                  have hfz38_2 := blk_frozen BK303.out 2
                  have hfz38_3 := blk_frozen BK303.out 3
                  go_wp2_with (first | (go_at_call 28; (with_reducible refine (round_zero.calls false _ _ l2_1 a2_2 a2_3 false _ ?side1 ?side2 A29.out).mono ?_); (case side1 => repeat (first | exact (Kd.C_below HR2_1.out HB.out) | (with_reducible refine Kd.C_alloc ?_ _) | (with_reducible refine Kd.C_drewN ?_ _) | (with_reducible refine Kd.C_drew ?_))); (case side2 => exact HC2_1.out); rintro e w39 ⟨rfl, hb⟩; have n0_ := Aside0.mk (blk_below (g := gb303) (o := .cells #[.bool false, .slice A2_1 l2_1.length c2_1, .int .i64 a2_2, .int .i64 a2_3] 37 (0, 0)) (by (with_reducible repeat (first | refine blk_drewN ?_ _ | refine blk_drew ?_ | refine blk_alloc ?_ _)); exact BK303.out) hb); have n1_ := Aside0.mk (blk_below (g := gb312) (o := .cells #[.int .i64 t304, .int .i64 t305, .int .i64 t306, .int .i64 t307, .int .u64 t308, .int .u64 t309, .int .u64 t310] 44 (0, 0)) (by (with_reducible repeat (first | refine blk_drewN ?_ _ | refine blk_drew ?_ | refine blk_alloc ?_ _)); exact BK312.out) hb); have n2_ := Aside0.mk (below_step (by repeat (first | (with_reducible first | exact HB.out | apply below_alloc | apply pw_below_drewN | apply below_drew1 | refine below_set ?_ GE303.out | refine below_set ?_ GE312.out) | exact HB.out)) hb); clear BK303; clear BK312; clear HB; have BK303 := n0_; have BK312 := n1_; have HB := n2_; clear n0_ n1_ n2_; (try clear hb); (try clear hb2); (try clear hk); (try clear hi)))
                  go_meet
                  case rel => exact ⟨_, H', ⟨by have := HJ11.out; first | omega | exact Nat.le_refl _⟩, ⟨by (with_reducible repeat (first | refine blk_drewN ?_ _ | refine blk_drew ?_ | refine blk_alloc ?_ _)); exact BK303.out⟩, ⟨by (with_reducible repeat (first | refine blk_drewN ?_ _ | refine blk_drew ?_ | refine blk_alloc ?_ _)); exact BK312.out⟩, ⟨by repeat (first | (with_reducible first | exact HB.out | apply below_alloc | apply pw_below_drewN | apply below_drew1 | refine below_set ?_ GE303.out | refine below_set ?_ GE312.out) | exact HB.out)⟩⟩
            · rw [if_neg c24] at H
              have c24b0 : (t304 == 4) = false := beq_eq_false_iff_ne.mpr c24
              have c24b1 : (t304 != 4) = true := bne_iff_ne.mpr c24
              have H' := Aside0.mk H
              clear H
              have hnb40 := NB312_303.out
              have hnc40 := NB303_312.out
              have hcz41_0 : wc.cell? ⟨gb312, 0, none⟩ = some (.int .i64 t304) := (blk_cell BK312.out 0).trans rfl
              have hcz41_1 : wc.cell? ⟨gb312, 1, none⟩ = some (.int .i64 t305) := (blk_cell BK312.out 1).trans rfl
              have hcz41_2 : wc.cell? ⟨gb312, 2, none⟩ = some (.int .i64 t306) := (blk_cell BK312.out 2).trans rfl
              have hcz41_3 : wc.cell? ⟨gb312, 3, none⟩ = some (.int .i64 t307) := (blk_cell BK312.out 3).trans rfl
              have hcz41_4 : wc.cell? ⟨gb312, 4, none⟩ = some (.int .u64 t308) := (blk_cell BK312.out 4).trans rfl
              have hcz41_5 : wc.cell? ⟨gb312, 5, none⟩ = some (.int .u64 t309) := (blk_cell BK312.out 5).trans rfl
              have hcz41_6 : wc.cell? ⟨gb312, 6, none⟩ = some (.int .u64 t310) := (blk_cell BK312.out 6).trans rfl
              have hfz41_0 := blk_frozen BK312.out 0
              have hfz41_1 := blk_frozen BK312.out 1
              have hfz41_2 := blk_frozen BK312.out 2
              have hfz41_3 := blk_frozen BK312.out 3
              have hfz41_4 := blk_frozen BK312.out 4
              have hfz41_5 := blk_frozen BK312.out 5
              have hfz41_6 := blk_frozen BK312.out 6
              go_wp2
              go_meet
              case rel => exact ⟨_, H', ⟨by have := HJ11.out; first | omega | exact Nat.le_refl _⟩, ⟨by (with_reducible repeat (first | refine blk_drewN ?_ _ | refine blk_drew ?_ | refine blk_alloc ?_ _)); exact BK303.out⟩, ⟨by (with_reducible repeat (first | refine blk_drewN ?_ _ | refine blk_drew ?_ | refine blk_alloc ?_ _)); exact BK312.out⟩, ⟨by repeat (first | (with_reducible first | exact HB.out | apply below_alloc | apply pw_below_drewN | apply below_drew1 | refine below_set ?_ GE303.out | refine below_set ?_ GE312.out) | exact HB.out)⟩⟩
    · rw [if_neg c11] at H
      have c11b0 : (t311 == 0) = false := beq_eq_false_iff_ne.mpr c11
      have c11b1 : (t311 != 0) = true := bne_iff_ne.mpr c11
      (first | rw [c11b0] | (simp only [i64_w, i32_w]; rw [c11b0]) | skip)
      simp only [Option.some.injEq, Prod.mk.injEq] at H
      obtain ⟨rfl, rfl⟩ := H
      go_wp2
      go_ret2
      exact ⟨by first | rfl | (simp [errW_none, errW_some] <;> rfl) | (simp [*, errW_none, errW_some] <;> rfl), by repeat (first | (with_reducible first | exact HB.out | apply below_alloc | apply pw_below_drewN | apply below_drew1 | refine below_set ?_ GE303.out | refine below_set ?_ GE312.out) | exact HB.out)⟩
  case rest =>
    clear HC5
    try clear c1
    try clear c2
    try clear p2
    try clear c3
    try clear c4
    try clear c9
    try clear c11
    try clear c11b0
    try clear c11b1
    try clear c13
    try clear c13b0
    try clear c13b1
    try clear c15
    try clear c16
    try clear c18
    try clear c18b0
    try clear c18b1
    try clear c20
    try clear c23
    try clear c24
    try clear c24b0
    try clear c24b1
    try clear c25
    try clear c26
    try clear c30
    try clear c31
    try clear c36
    try clear c40
    try clear hcz10_0
    try clear hcz10_1
    try clear hcz10_2
    try clear hcz10_3
    try clear hcz10_4
    try clear hcz10_5
    try clear hcz10_6
    try clear hcz16_0
    try clear hcz16_1
    try clear hcz16_2
    try clear hcz16_3
    try clear hcz21_0
    try clear hcz21_1
    try clear hcz21_2
    try clear hcz21_3
    try clear hcz27_0
    try clear hcz27_1
    try clear hcz27_2
    try clear hcz27_3
    try clear hcz27_4
    try clear hcz27_5
    try clear hcz27_6
    try clear hcz28_0
    try clear hcz28_1
    try clear hcz28_2
    try clear hcz28_3
    try clear hcz32_0
    try clear hcz32_1
    try clear hcz32_2
    try clear hcz32_3
    try clear hcz32_4
    try clear hcz32_5
    try clear hcz32_6
    try clear hcz33_0
    try clear hcz33_1
    try clear hcz33_2
    try clear hcz33_3
    try clear hcz35_0
    try clear hcz35_1
    try clear hcz35_2
    try clear hcz35_3
    try clear hcz35_4
    try clear hcz35_5
    try clear hcz35_6
    try clear hcz37_0
    try clear hcz37_1
    try clear hcz37_2
    try clear hcz37_3
    try clear hcz37_4
    try clear hcz37_5
    try clear hcz37_6
    try clear hcz38_0
    try clear hcz38_1
    try clear hcz38_2
    try clear hcz38_3
    try clear hcz41_0
    try clear hcz41_1
    try clear hcz41_2
    try clear hcz41_3
    try clear hcz41_4
    try clear hcz41_5
    try clear hcz41_6
    try clear hfz10_0
    try clear hfz10_1
    try clear hfz10_2
    try clear hfz10_3
    try clear hfz10_4
    try clear hfz10_5
    try clear hfz10_6
    try clear hfz16_0
    try clear hfz16_1
    try clear hfz16_2
    try clear hfz16_3
    try clear hfz21_0
    try clear hfz21_1
    try clear hfz21_2
    try clear hfz21_3
    try clear hfz27_0
    try clear hfz27_1
    try clear hfz27_2
    try clear hfz27_3
    try clear hfz27_4
    try clear hfz27_5
    try clear hfz27_6
    try clear hfz28_0
    try clear hfz28_1
    try clear hfz28_2
    try clear hfz28_3
    try clear hfz32_0
    try clear hfz32_1
    try clear hfz32_2
    try clear hfz32_3
    try clear hfz32_4
    try clear hfz32_5
    try clear hfz32_6
    try clear hfz33_0
    try clear hfz33_1
    try clear hfz33_2
    try clear hfz33_3
    try clear hfz35_0
    try clear hfz35_1
    try clear hfz35_2
    try clear hfz35_3
    try clear hfz35_4
    try clear hfz35_5
    try clear hfz35_6
    try clear hfz37_0
    try clear hfz37_1
    try clear hfz37_2
    try clear hfz37_3
    try clear hfz37_4
    try clear hfz37_5
    try clear hfz37_6
    try clear hfz38_0
    try clear hfz38_1
    try clear hfz38_2
    try clear hfz38_3
    try clear hfz41_0
    try clear hfz41_1
    try clear hfz41_2
    try clear hfz41_3
    try clear hfz41_4
    try clear hfz41_5
    try clear hfz41_6
    try clear p2
    obtain ⟨kq, HA, HJ4, BK303, BK312, HB⟩ := hcut
    cases kq with
    | zero => exact absurd HA.out (by simp [round_Round.j1])
    | succ kj4 =>
      have H := HA.out
      clear HA
      simp only [round_Round.j1] at H
      replace H := Option.bind_eq_some_iff.mp H
      obtain ⟨⟨t316, t317, t318⟩, A420, H⟩ := H
      replace H : (if t318 = 0 then (if t317 = true then ((round_large.f kj4 t304 t305 t306 t307 t308 t309 t310 a0 a1 a2_0).bind fun t319 => (some (t319, 0))) else ((value_Pattern.f a0 a2_0 t316).bind fun bt320 => (some (bt320.1, bt320.2)))) else (some (0, t318))) = some (r1, r2) := H
      have A42 := Aside0.mk A420
      clear A420
      by_cases c43 : t318 = 0
      · rw [if_pos c43] at H
        have c43b0 : (t318 == 0) = true := beq_iff_eq.mpr c43
        have c43b1 : (t318 != 0) = false := bne_eq_false_iff_eq.mpr c43
        clear c43
        by_cases c44 : t317 = true
        · subst c44
          have H1 : ((round_large.f kj4 t304 t305 t306 t307 t308 t309 t310 a0 a1 a2_0).bind fun t319 => (some (t319, 0))) = some (r1, r2) := by rw [if_pos rfl] at H; exact H
          clear H
          have H := H1
          clear H1
          replace H := Option.bind_eq_some_iff.mp H
          obtain ⟨t319, A450, H⟩ := H
          replace H : (some (t319, 0)) = some (r1, r2) := H
          have A45 := Aside0.mk A450
          clear A450
          simp only [Option.some.injEq, Prod.mk.injEq] at H
          obtain ⟨rfl, rfl⟩ := H
          have hnb46 := NB303_312.out
          have hnc46 := NB312_303.out
          have hcz47_0 : wc.cell? ⟨gb303, 0, none⟩ = some (.bool a2_0) := (blk_cell BK303.out 0).trans rfl
          have hcz47_1 : wc.cell? ⟨gb303, 1, none⟩ = some (.slice A2_1 l2_1.length c2_1) := (blk_cell BK303.out 1).trans rfl
          have hcz47_2 : wc.cell? ⟨gb303, 2, none⟩ = some (.int .i64 a2_2) := (blk_cell BK303.out 2).trans rfl
          have hcz47_3 : wc.cell? ⟨gb303, 3, none⟩ = some (.int .i64 a2_3) := (blk_cell BK303.out 3).trans rfl
          have hfz47_0 := blk_frozen BK303.out 0
          have hfz47_1 := blk_frozen BK303.out 1
          have hfz47_2 := blk_frozen BK303.out 2
          have hfz47_3 := blk_frozen BK303.out 3
          go_wp2_with (first | ((with_reducible refine gate_callee (f := 29) rfl ?_); refine goesL_ (some 52) rfl rfl Tryd.func29 (by kernel_rfl) rfl #[.int .i64 a0, .bool a2_0, .agg #[.bool a2_0, .slice A2_1 l2_1.length c2_1, .int .i64 a2_2, .int .i64 a2_3]] rfl (by (try simp only [List.map_toArray, List.map_cons, List.map_nil]); first | done | rfl | (simp only [List.length_drop, List.length_take]; rfl)) ?_; (with_reducible refine (round_Nearest.calls kj4 a0 a2_0 a2_0 _ _ l2_1 a2_2 a2_3 t316 true t318 _ ?side3 ?side1 ?side2 A42.out).mono ?_); (case side1 => repeat (first | exact (Kd.C_below HR2_1.out HB.out) | (with_reducible refine Kd.C_alloc ?_ _) | (with_reducible refine Kd.C_drewN ?_ _) | (with_reducible refine Kd.C_drew ?_))); (case side2 => exact HC2_1.out); (case side3 => exact Glob.below HG.out (by repeat (first | (with_reducible first | exact HB.out | apply below_alloc | apply pw_below_drewN | apply below_drew1 | refine below_set ?_ GE303.out | refine below_set ?_ GE312.out) | exact HB.out))); rintro e w48 ⟨rfl, hb⟩; refine ⟨_, rfl, ?_⟩; have n0_ := Aside0.mk (blk_below (g := gb303) (o := .cells #[.bool a2_0, .slice A2_1 l2_1.length c2_1, .int .i64 a2_2, .int .i64 a2_3] 37 (0, 0)) (by (with_reducible repeat (first | refine blk_drewN ?_ _ | refine blk_drew ?_ | refine blk_alloc ?_ _)); exact BK303.out) hb); have n1_ := Aside0.mk (blk_below (g := gb312) (o := .cells #[.int .i64 t304, .int .i64 t305, .int .i64 t306, .int .i64 t307, .int .u64 t308, .int .u64 t309, .int .u64 t310] 44 (0, 0)) (by (with_reducible repeat (first | refine blk_drewN ?_ _ | refine blk_drew ?_ | refine blk_alloc ?_ _)); exact BK312.out) hb); have n2_ := Aside0.mk (below_step (by repeat (first | (with_reducible first | exact HB.out | apply below_alloc | apply pw_below_drewN | apply below_drew1 | refine below_set ?_ GE303.out | refine below_set ?_ GE312.out) | exact HB.out)) hb); clear BK303; clear BK312; clear HB; have BK303 := n0_; have BK312 := n1_; have HB := n2_; clear n0_ n1_ n2_; (try clear hb); (try clear hb2); (try clear hk); (try clear hi); have hcz49_0 : w48.cell? ⟨gb312, 0, none⟩ = some (.int .i64 t304) := (blk_cell BK312.out 0).trans rfl; have hcz49_1 : w48.cell? ⟨gb312, 1, none⟩ = some (.int .i64 t305) := (blk_cell BK312.out 1).trans rfl; have hcz49_2 : w48.cell? ⟨gb312, 2, none⟩ = some (.int .i64 t306) := (blk_cell BK312.out 2).trans rfl; have hcz49_3 : w48.cell? ⟨gb312, 3, none⟩ = some (.int .i64 t307) := (blk_cell BK312.out 3).trans rfl; have hcz49_4 : w48.cell? ⟨gb312, 4, none⟩ = some (.int .u64 t308) := (blk_cell BK312.out 4).trans rfl; have hcz49_5 : w48.cell? ⟨gb312, 5, none⟩ = some (.int .u64 t309) := (blk_cell BK312.out 5).trans rfl; have hcz49_6 : w48.cell? ⟨gb312, 6, none⟩ = some (.int .u64 t310) := (blk_cell BK312.out 6).trans rfl; have hfz49_0 := blk_frozen BK312.out 0; have hfz49_1 := blk_frozen BK312.out 1; have hfz49_2 := blk_frozen BK312.out 2; have hfz49_3 := blk_frozen BK312.out 3; have hfz49_4 := blk_frozen BK312.out 4; have hfz49_5 := blk_frozen BK312.out 5; have hfz49_6 := blk_frozen BK312.out 6; have hcz50_0 : w48.cell? ⟨gb303, 0, none⟩ = some (.bool a2_0) := (blk_cell BK303.out 0).trans rfl; have hcz50_1 : w48.cell? ⟨gb303, 1, none⟩ = some (.slice A2_1 l2_1.length c2_1) := (blk_cell BK303.out 1).trans rfl; have hcz50_2 : w48.cell? ⟨gb303, 2, none⟩ = some (.int .i64 a2_2) := (blk_cell BK303.out 2).trans rfl; have hcz50_3 : w48.cell? ⟨gb303, 3, none⟩ = some (.int .i64 a2_3) := (blk_cell BK303.out 3).trans rfl; have hfz50_0 := blk_frozen BK303.out 0; have hfz50_1 := blk_frozen BK303.out 1; have hfz50_2 := blk_frozen BK303.out 2; have hfz50_3 := blk_frozen BK303.out 3) | ((with_reducible refine gate_callee (f := 30) rfl ?_); refine goesL_ (some 65) rfl rfl Tryd.func30 (by kernel_rfl) rfl #[.agg #[.int .i64 t304, .int .i64 t305, .int .i64 t306, .int .i64 t307, .int .u64 t308, .int .u64 t309, .int .u64 t310], .int .i64 a0, .int .i64 a1, .bool a2_0] rfl (by (try simp only [List.map_toArray, List.map_cons, List.map_nil]); first | done | rfl | (simp only [List.length_drop, List.length_take]; rfl)) ?_; (with_reducible refine (round_large.calls kj4 t304 t305 t306 t307 t308 t309 t310 a0 a1 a2_0 t319 _ ?side1 A45.out).mono ?_); (case side1 => exact Glob.below HG.out (by repeat (first | (with_reducible first | exact HB.out | apply below_alloc | apply pw_below_drewN | apply below_drew1 | refine below_set ?_ GE303.out | refine below_set ?_ GE312.out) | exact HB.out))); rintro e w51 ⟨rfl, hb⟩; refine ⟨_, rfl, ?_⟩; have n0_ := Aside0.mk (blk_below (g := gb303) (o := .cells #[.bool a2_0, .slice A2_1 l2_1.length c2_1, .int .i64 a2_2, .int .i64 a2_3] 37 (0, 0)) (by (with_reducible repeat (first | refine blk_drewN ?_ _ | refine blk_drew ?_ | refine blk_alloc ?_ _)); exact BK303.out) hb); have n1_ := Aside0.mk (blk_below (g := gb312) (o := .cells #[.int .i64 t304, .int .i64 t305, .int .i64 t306, .int .i64 t307, .int .u64 t308, .int .u64 t309, .int .u64 t310] 44 (0, 0)) (by (with_reducible repeat (first | refine blk_drewN ?_ _ | refine blk_drew ?_ | refine blk_alloc ?_ _)); exact BK312.out) hb); have n2_ := Aside0.mk (below_step (by repeat (first | (with_reducible first | exact HB.out | apply below_alloc | apply pw_below_drewN | apply below_drew1 | refine below_set ?_ GE303.out | refine below_set ?_ GE312.out) | exact HB.out)) hb); clear BK303; clear BK312; clear HB; have BK303 := n0_; have BK312 := n1_; have HB := n2_; clear n0_ n1_ n2_; (try clear hb); (try clear hb2); (try clear hk); (try clear hi)))
          go_ret2
          exact ⟨by first | rfl | (simp [errW_none, errW_some] <;> rfl) | (simp [*, errW_none, errW_some] <;> rfl), by repeat (first | (with_reducible first | exact HB.out | apply below_alloc | apply pw_below_drewN | apply below_drew1 | refine below_set ?_ GE303.out | refine below_set ?_ GE312.out) | exact HB.out)⟩
        · replace c44 := Bool.eq_false_iff.mpr c44
          subst c44
          have H1 : ((value_Pattern.f a0 a2_0 t316).bind fun bt320 => (some (bt320.1, bt320.2))) = some (r1, r2) := by rw [if_neg (show ¬ (false = true) by decide)] at H; exact H
          clear H
          have H := H1
          clear H1
          replace H := Option.bind_eq_some_iff.mp H
          obtain ⟨⟨t320, t321⟩, A520, H⟩ := H
          replace H : (some (t320, t321)) = some (r1, r2) := H
          have A52 := Aside0.mk A520
          clear A520
          simp only [Option.some.injEq, Prod.mk.injEq] at H
          obtain ⟨rfl, rfl⟩ := H
          have hnb53 := NB303_312.out
          have hnc53 := NB312_303.out
          have hcz54_0 : wc.cell? ⟨gb303, 0, none⟩ = some (.bool a2_0) := (blk_cell BK303.out 0).trans rfl
          have hcz54_1 : wc.cell? ⟨gb303, 1, none⟩ = some (.slice A2_1 l2_1.length c2_1) := (blk_cell BK303.out 1).trans rfl
          have hcz54_2 : wc.cell? ⟨gb303, 2, none⟩ = some (.int .i64 a2_2) := (blk_cell BK303.out 2).trans rfl
          have hcz54_3 : wc.cell? ⟨gb303, 3, none⟩ = some (.int .i64 a2_3) := (blk_cell BK303.out 3).trans rfl
          have hfz54_0 := blk_frozen BK303.out 0
          have hfz54_1 := blk_frozen BK303.out 1
          have hfz54_2 := blk_frozen BK303.out 2
          have hfz54_3 := blk_frozen BK303.out 3
          go_wp2_with (first | ((with_reducible refine gate_callee (f := 29) rfl ?_); refine goesL_ (some 52) rfl rfl Tryd.func29 (by kernel_rfl) rfl #[.int .i64 a0, .bool a2_0, .agg #[.bool a2_0, .slice A2_1 l2_1.length c2_1, .int .i64 a2_2, .int .i64 a2_3]] rfl (by (try simp only [List.map_toArray, List.map_cons, List.map_nil]); first | done | rfl | (simp only [List.length_drop, List.length_take]; rfl)) ?_; (with_reducible refine (round_Nearest.calls kj4 a0 a2_0 a2_0 _ _ l2_1 a2_2 a2_3 t316 false t318 _ ?side3 ?side1 ?side2 A42.out).mono ?_); (case side1 => repeat (first | exact (Kd.C_below HR2_1.out HB.out) | (with_reducible refine Kd.C_alloc ?_ _) | (with_reducible refine Kd.C_drewN ?_ _) | (with_reducible refine Kd.C_drew ?_))); (case side2 => exact HC2_1.out); (case side3 => exact Glob.below HG.out (by repeat (first | (with_reducible first | exact HB.out | apply below_alloc | apply pw_below_drewN | apply below_drew1 | refine below_set ?_ GE303.out | refine below_set ?_ GE312.out) | exact HB.out))); rintro e w55 ⟨rfl, hb⟩; refine ⟨_, rfl, ?_⟩; have n0_ := Aside0.mk (blk_below (g := gb303) (o := .cells #[.bool a2_0, .slice A2_1 l2_1.length c2_1, .int .i64 a2_2, .int .i64 a2_3] 37 (0, 0)) (by (with_reducible repeat (first | refine blk_drewN ?_ _ | refine blk_drew ?_ | refine blk_alloc ?_ _)); exact BK303.out) hb); have n1_ := Aside0.mk (blk_below (g := gb312) (o := .cells #[.int .i64 t304, .int .i64 t305, .int .i64 t306, .int .i64 t307, .int .u64 t308, .int .u64 t309, .int .u64 t310] 44 (0, 0)) (by (with_reducible repeat (first | refine blk_drewN ?_ _ | refine blk_drew ?_ | refine blk_alloc ?_ _)); exact BK312.out) hb); have n2_ := Aside0.mk (below_step (by repeat (first | (with_reducible first | exact HB.out | apply below_alloc | apply pw_below_drewN | apply below_drew1 | refine below_set ?_ GE303.out | refine below_set ?_ GE312.out) | exact HB.out)) hb); clear BK303; clear BK312; clear HB; have BK303 := n0_; have BK312 := n1_; have HB := n2_; clear n0_ n1_ n2_; (try clear hb); (try clear hb2); (try clear hk); (try clear hi); have hcz56_0 : w55.cell? ⟨gb303, 0, none⟩ = some (.bool a2_0) := (blk_cell BK303.out 0).trans rfl; have hcz56_1 : w55.cell? ⟨gb303, 1, none⟩ = some (.slice A2_1 l2_1.length c2_1) := (blk_cell BK303.out 1).trans rfl; have hcz56_2 : w55.cell? ⟨gb303, 2, none⟩ = some (.int .i64 a2_2) := (blk_cell BK303.out 2).trans rfl; have hcz56_3 : w55.cell? ⟨gb303, 3, none⟩ = some (.int .i64 a2_3) := (blk_cell BK303.out 3).trans rfl; have hfz56_0 := blk_frozen BK303.out 0; have hfz56_1 := blk_frozen BK303.out 1; have hfz56_2 := blk_frozen BK303.out 2; have hfz56_3 := blk_frozen BK303.out 3) | ((with_reducible refine gate_callee (f := 17) rfl ?_); refine goesL_ (some 70) rfl rfl Tryd.func17 (by kernel_rfl) rfl #[.int .i64 a0, .bool a2_0, .int .u64 t316] rfl (by (try simp only [List.map_toArray, List.map_cons, List.map_nil]); first | done | rfl | (simp only [List.length_drop, List.length_take]; rfl)) ?_; (with_reducible refine (value_Pattern.calls a0 a2_0 t316 t320 t321 _ ?side1 A52.out).mono ?_); (case side1 => exact Glob.below HG.out (by repeat (first | (with_reducible first | exact HB.out | apply below_alloc | apply pw_below_drewN | apply below_drew1 | refine below_set ?_ GE303.out | refine below_set ?_ GE312.out) | exact HB.out))); rintro e w57 ⟨rfl, hb⟩; refine ⟨_, rfl, ?_⟩; have n0_ := Aside0.mk (blk_below (g := gb303) (o := .cells #[.bool a2_0, .slice A2_1 l2_1.length c2_1, .int .i64 a2_2, .int .i64 a2_3] 37 (0, 0)) (by (with_reducible repeat (first | refine blk_drewN ?_ _ | refine blk_drew ?_ | refine blk_alloc ?_ _)); exact BK303.out) hb); have n1_ := Aside0.mk (blk_below (g := gb312) (o := .cells #[.int .i64 t304, .int .i64 t305, .int .i64 t306, .int .i64 t307, .int .u64 t308, .int .u64 t309, .int .u64 t310] 44 (0, 0)) (by (with_reducible repeat (first | refine blk_drewN ?_ _ | refine blk_drew ?_ | refine blk_alloc ?_ _)); exact BK312.out) hb); have n2_ := Aside0.mk (below_step (by repeat (first | (with_reducible first | exact HB.out | apply below_alloc | apply pw_below_drewN | apply below_drew1 | refine below_set ?_ GE303.out | refine below_set ?_ GE312.out) | exact HB.out)) hb); clear BK303; clear BK312; clear HB; have BK303 := n0_; have BK312 := n1_; have HB := n2_; clear n0_ n1_ n2_; (try clear hb); (try clear hb2); (try clear hk); (try clear hi)))
          go_ret2
          exact ⟨by first | rfl | (simp [errW_none, errW_some] <;> rfl) | (simp [*, errW_none, errW_some] <;> rfl), by repeat (first | (with_reducible first | exact HB.out | apply below_alloc | apply pw_below_drewN | apply below_drew1 | refine below_set ?_ GE303.out | refine below_set ?_ GE312.out) | exact HB.out)⟩
      · rw [if_neg c43] at H
        have c43b0 : (t318 == 0) = false := beq_eq_false_iff_ne.mpr c43
        have c43b1 : (t318 != 0) = true := bne_iff_ne.mpr c43
        simp only [Option.some.injEq, Prod.mk.injEq] at H
        obtain ⟨rfl, rfl⟩ := H
        have hnb58 := NB303_312.out
        have hnc58 := NB312_303.out
        have hcz59_0 : wc.cell? ⟨gb303, 0, none⟩ = some (.bool a2_0) := (blk_cell BK303.out 0).trans rfl
        have hcz59_1 : wc.cell? ⟨gb303, 1, none⟩ = some (.slice A2_1 l2_1.length c2_1) := (blk_cell BK303.out 1).trans rfl
        have hcz59_2 : wc.cell? ⟨gb303, 2, none⟩ = some (.int .i64 a2_2) := (blk_cell BK303.out 2).trans rfl
        have hcz59_3 : wc.cell? ⟨gb303, 3, none⟩ = some (.int .i64 a2_3) := (blk_cell BK303.out 3).trans rfl
        have hfz59_0 := blk_frozen BK303.out 0
        have hfz59_1 := blk_frozen BK303.out 1
        have hfz59_2 := blk_frozen BK303.out 2
        have hfz59_3 := blk_frozen BK303.out 3
        go_wp2_with (first | ((with_reducible refine gate_callee (f := 29) rfl ?_); refine goesL_ (some 52) rfl rfl Tryd.func29 (by kernel_rfl) rfl #[.int .i64 a0, .bool a2_0, .agg #[.bool a2_0, .slice A2_1 l2_1.length c2_1, .int .i64 a2_2, .int .i64 a2_3]] rfl (by (try simp only [List.map_toArray, List.map_cons, List.map_nil]); first | done | rfl | (simp only [List.length_drop, List.length_take]; rfl)) ?_; (with_reducible refine (round_Nearest.calls kj4 a0 a2_0 a2_0 _ _ l2_1 a2_2 a2_3 t316 t317 t318 _ ?side3 ?side1 ?side2 A42.out).mono ?_); (case side1 => repeat (first | exact (Kd.C_below HR2_1.out HB.out) | (with_reducible refine Kd.C_alloc ?_ _) | (with_reducible refine Kd.C_drewN ?_ _) | (with_reducible refine Kd.C_drew ?_))); (case side2 => exact HC2_1.out); (case side3 => exact Glob.below HG.out (by repeat (first | (with_reducible first | exact HB.out | apply below_alloc | apply pw_below_drewN | apply below_drew1 | refine below_set ?_ GE303.out | refine below_set ?_ GE312.out) | exact HB.out))); rintro e w60 ⟨rfl, hb⟩; refine ⟨_, rfl, ?_⟩; have n0_ := Aside0.mk (blk_below (g := gb303) (o := .cells #[.bool a2_0, .slice A2_1 l2_1.length c2_1, .int .i64 a2_2, .int .i64 a2_3] 37 (0, 0)) (by (with_reducible repeat (first | refine blk_drewN ?_ _ | refine blk_drew ?_ | refine blk_alloc ?_ _)); exact BK303.out) hb); have n1_ := Aside0.mk (blk_below (g := gb312) (o := .cells #[.int .i64 t304, .int .i64 t305, .int .i64 t306, .int .i64 t307, .int .u64 t308, .int .u64 t309, .int .u64 t310] 44 (0, 0)) (by (with_reducible repeat (first | refine blk_drewN ?_ _ | refine blk_drew ?_ | refine blk_alloc ?_ _)); exact BK312.out) hb); have n2_ := Aside0.mk (below_step (by repeat (first | (with_reducible first | exact HB.out | apply below_alloc | apply pw_below_drewN | apply below_drew1 | refine below_set ?_ GE303.out | refine below_set ?_ GE312.out) | exact HB.out)) hb); clear BK303; clear BK312; clear HB; have BK303 := n0_; have BK312 := n1_; have HB := n2_; clear n0_ n1_ n2_; (try clear hb); (try clear hb2); (try clear hk); (try clear hi)))
        go_ret2
        exact ⟨by first | rfl | (simp [errW_none, errW_some] <;> rfl) | (simp [*, errW_none, errW_some] <;> rfl), by repeat (first | (with_reducible first | exact HB.out | apply below_alloc | apply pw_below_drewN | apply below_drew1 | refine below_set ?_ GE303.out | refine below_set ?_ GE312.out) | exact HB.out)⟩

def trans_turner_huge.f (k : Nat) (a0_0 : Int) (a0_1 : Int) (a0_2 : Int) (a0_3 : Int) (a0_4 : Int) (a0_5 : Int) (a0_6 : Int) (a0_7 : Int) (a0_8 : Int) (a1 : Bool) : Option (Int) := (round_Round.f k a0_7 a0_8 a1 (([1] : List Int)) 4000 0).bind fun bt326 => (some bt326.1)
theorem trans_turner_huge.mono : ∀ a0 a1 a2 a3 a4 a5 a6 a7 a8 a9 k, LeO (trans_turner_huge.f k a0 a1 a2 a3 a4 a5 a6 a7 a8 a9) (trans_turner_huge.f (k + 1) a0 a1 a2 a3 a4 a5 a6 a7 a8 a9) := by
  intro a0 a1 a2 a3 a4 a5 a6 a7 a8 a9 k
  unfold trans_turner_huge.f
  repeat' first
      | (with_reducible exact round_Round.mono _ _ _ _ _ _ _)
      | (with_reducible exact LeO.refl _)
      | (with_reducible exact LeO.none _)
      | (with_reducible refine LeO.ite ?_ ?_)
      | (with_reducible refine LeO.bind ?_ (fun _ => ?_))
      | exact round_Round.mono _ _ _ _ _ _ _
      | exact LeO.none _
      | refine LeO.ite ?_ ?_
      | refine LeO.bind ?_ (fun _ => ?_)
set_option maxHeartbeats 8000000 in
set_option maxRecDepth 100000 in
theorem trans_turner_huge.calls (k : Nat) (a0_0 : Int) (a0_1 : Int) (a0_2 : Int) (a0_3 : Int) (a0_4 : Int) (a0_5 : Int) (a0_6 : Int) (a0_7 : Int) (a0_8 : Int) (a1 : Bool) (r : Int) (w : World) (hG : Glob w) (h : trans_turner_huge.f k a0_0 a0_1 a0_2 a0_3 a0_4 a0_5 a0_6 a0_7 a0_8 a1 = some r) :
    Calls Tryd.prog 35 #[.agg #[.int .i64 a0_0, .int .i64 a0_1, .int .i64 a0_2, .int .i64 a0_3, .int .u64 a0_4, .int .u64 a0_5, .int .u64 a0_6, .int .i64 a0_7, .int .i64 a0_8], .bool a1] w fun e w' => e = .returned (.int .u64 r) ∧ Below w.heap.size w w' := by
  have hu54 := Tryd.underlying54
  have hu37 := Tryd.underlying37
  have HG := Aside0.mk hG
  clear hG
  have HB := Aside0.mk (Below.refl w.heap.size w)
  have H : ((round_Round.f k a0_7 a0_8 a1 (([1] : List Int)) 4000 0).bind fun bt326 => (some bt326.1)) = some r := h
  clear h
  obtain ⟨y323, hy323⟩ : ∃ y_ : List Int, y_ = (([1] : List Int)) := ⟨_, rfl⟩
  replace H : ((round_Round.f k a0_7 a0_8 a1 y323 4000 0).bind fun bt326 => (some bt326.1)) = some r := by first | (rw [hy323]; with_reducible exact H) | (have H2_ := (Option.bind_some _ _).symm.trans H; rw [hy323]; with_reducible exact H2_) | (have H2_ := (Option.bind_some _ _).symm.trans H; with_reducible exact H2_) | with_reducible exact H | (rw [hy323]; exact H) | exact H
  have Ny323 := Aside0.mk hy323
  clear hy323
  replace H := Option.bind_eq_some_iff.mp H
  obtain ⟨⟨t326, t327⟩, A30, H⟩ := H
  replace H : (some t326) = some r := H
  have A3 := Aside0.mk A30
  clear A30
  obtain rfl := Option.some.inj H
  go_enter Tryd.func35, Tryd.ntmps35
  go_wp2_with (first | ((with_reducible refine gate_dst (N := 2) rfl ?_); refine box_event ?hg (N := 2) ?hd (cs := #[.int .i64 a0_0, .int .i64 a0_1, .int .i64 a0_2, .int .i64 a0_3, .int .u64 a0_4, .int .u64 a0_5, .int .u64 a0_6, .int .i64 a0_7, .int .i64 a0_8]) (t := 54) ?hr ?_; (case hd => rfl); (case hg => rfl); (case hr => first | (go_simp; done) | (go_simp; rfl)); intro gb322 hg w4 hbox hb; have n0_ := Aside0.mk (below_step (by repeat (first | (with_reducible first | exact HB.out | apply below_alloc | apply pw_below_drewN | apply below_drew1) | exact HB.out)) hb); have n1_ := Aside0.mk (hbox); have n2_ := Aside0.mk ((by rw [hg]; exact (below_size (by repeat (first | (with_reducible first | exact HB.out | apply below_alloc | apply pw_below_drewN | apply below_drew1) | exact HB.out))) : w.heap.size ≤ gb322)); have n3_ := Aside0.mk ((by rw [hg]; exact (below_size (by repeat (first | (with_reducible first | exact HB.out | apply below_alloc | apply pw_below_drewN | apply below_drew1) | exact HB.out))) : w.heap.size ≤ gb322)); clear HB; have HB := n0_; have BK322 := n1_; have GW322 := n2_; have GE322 := n3_; clear n0_ n1_ n2_ n3_; clear hb hbox hg; have hcz5_0 : w4.cell? ⟨gb322, 0, none⟩ = some (.int .i64 a0_0) := (blk_cell BK322.out 0).trans rfl; have hcz5_1 : w4.cell? ⟨gb322, 1, none⟩ = some (.int .i64 a0_1) := (blk_cell BK322.out 1).trans rfl; have hcz5_2 : w4.cell? ⟨gb322, 2, none⟩ = some (.int .i64 a0_2) := (blk_cell BK322.out 2).trans rfl; have hcz5_3 : w4.cell? ⟨gb322, 3, none⟩ = some (.int .i64 a0_3) := (blk_cell BK322.out 3).trans rfl; have hcz5_4 : w4.cell? ⟨gb322, 4, none⟩ = some (.int .u64 a0_4) := (blk_cell BK322.out 4).trans rfl; have hcz5_5 : w4.cell? ⟨gb322, 5, none⟩ = some (.int .u64 a0_5) := (blk_cell BK322.out 5).trans rfl; have hcz5_6 : w4.cell? ⟨gb322, 6, none⟩ = some (.int .u64 a0_6) := (blk_cell BK322.out 6).trans rfl; have hcz5_7 : w4.cell? ⟨gb322, 7, none⟩ = some (.int .i64 a0_7) := (blk_cell BK322.out 7).trans rfl; have hcz5_8 : w4.cell? ⟨gb322, 8, none⟩ = some (.int .i64 a0_8) := (blk_cell BK322.out 8).trans rfl; have hfz5_0 := blk_frozen BK322.out 0; have hfz5_1 := blk_frozen BK322.out 1; have hfz5_2 := blk_frozen BK322.out 2; have hfz5_3 := blk_frozen BK322.out 3; have hfz5_4 := blk_frozen BK322.out 4; have hfz5_5 := blk_frozen BK322.out 5; have hfz5_6 := blk_frozen BK322.out 6; have hfz5_7 := blk_frozen BK322.out 7; have hfz5_8 := blk_frozen BK322.out 8) | ((with_reducible refine gate_dst (N := 13) rfl ?_); refine Kd.R_lit (Kd.int .u64) _ 22 ?hg (N := 13) ?hd (xs := ([1] : List Int)) (inner := [.int .u64 1]) (ok := fun _ => True) (okp := fun _ => True) ?hr ?hp (fun _ hk => hk) trivial (Below.refl _ _) (Nat.le_refl _) (by simp) ?_; (case hd => rfl); (case hg => rfl); (case hr => first | (go_simp; done) | (go_simp; rfl)); (case hp => exact (Reps.one (show Kd.M (Kd.int .u64) _ _ _ 1 [.int .u64 1] from rfl) (Reps.none _ _))); intro v324 w6 ho7 hb hg_ hnew_; clear hg_ hnew_; (first | rw [← Ny323.out] at ho7 | (simp only [Int.reduceToNat] at ho7; rw [← Ny323.out] at ho7)); have n0_ := Aside0.mk (Kd.R_lower ho7 (below_size (by repeat (first | (with_reducible first | exact HB.out | apply below_alloc | apply pw_below_drewN | apply below_drew1 | refine below_set ?_ GE322.out) | exact HB.out)))); have n1_ := Aside0.mk (blk_below (g := gb322) (o := .cells #[.int .i64 a0_0, .int .i64 a0_1, .int .i64 a0_2, .int .i64 a0_3, .int .u64 a0_4, .int .u64 a0_5, .int .u64 a0_6, .int .i64 a0_7, .int .i64 a0_8] 54 (0, 0)) (by (with_reducible repeat (first | refine blk_drewN ?_ _ | refine blk_drew ?_ | refine blk_alloc ?_ _)); exact BK322.out) hb); have n2_ := Aside0.mk (below_step (by repeat (first | (with_reducible first | exact HB.out | apply below_alloc | apply pw_below_drewN | apply below_drew1 | refine below_set ?_ GE322.out) | exact HB.out)) hb); clear BK322; clear HB; have HO325 := n0_; have BK322 := n1_; have HB := n2_; clear n0_ n1_ n2_; clear hb ho7; obtain ⟨Ao8, co8, eo8⟩ := Kd.R_slice HO325.out; subst eo8) | ((with_reducible refine gate_callee (f := 15) rfl ?_); refine goesL_ (some 15) rfl rfl Tryd.func15 (by kernel_rfl) rfl #[.int .i64 a0_7, .int .i64 a0_8, .agg #[.bool a1, .slice Ao8 y323.length co8, .int .i64 4000, .int .i64 0]] rfl (by (try simp only [List.map_toArray, List.map_cons, List.map_nil]); first | done | rfl | (simp only [List.length_drop, List.length_take]; rfl)) ?_; (with_reducible refine (round_Round.calls k a0_7 a0_8 a1 _ _ y323 4000 0 t326 t327 _ ?side3 ?side1 ?side2 A3.out).mono ?_); (case side1 => repeat (first | exact (Kd.R_reads' HO325.out).2.2 | (with_reducible refine Kd.C_alloc ?_ _) | (with_reducible refine Kd.C_drewN ?_ _) | (with_reducible refine Kd.C_drew ?_))); (case side2 => exact (Kd.R_reads' HO325.out).2.1); (case side3 => exact Glob.below HG.out (by repeat (first | (with_reducible first | exact HB.out | apply below_alloc | apply pw_below_drewN | apply below_drew1 | refine below_set ?_ GE322.out) | exact HB.out))); rintro e w9 ⟨rfl, hb⟩; refine ⟨_, rfl, ?_⟩; have n0_ := Aside0.mk (Kd.R_below (by (with_reducible repeat (first | apply Kd.R_alloc | apply Kd.R_drewN | apply Kd.R_drew)); exact HO325.out) hb); have n1_ := Aside0.mk (blk_below (g := gb322) (o := .cells #[.int .i64 a0_0, .int .i64 a0_1, .int .i64 a0_2, .int .i64 a0_3, .int .u64 a0_4, .int .u64 a0_5, .int .u64 a0_6, .int .i64 a0_7, .int .i64 a0_8] 54 (0, 0)) (by (with_reducible repeat (first | refine blk_drewN ?_ _ | refine blk_drew ?_ | refine blk_alloc ?_ _)); exact BK322.out) hb); have n2_ := Aside0.mk (below_step (by repeat (first | (with_reducible first | exact HB.out | apply below_alloc | apply pw_below_drewN | apply below_drew1 | refine below_set ?_ GE322.out) | exact HB.out)) hb); clear HO325; clear BK322; clear HB; have HO325 := n0_; have BK322 := n1_; have HB := n2_; clear n0_ n1_ n2_; (try clear hb); (try clear hb2); (try clear hk); (try clear hi)))
  go_ret
  exact ⟨by first | rfl | (simp [errW_none, errW_some] <;> rfl) | (simp [*, errW_none, errW_some] <;> rfl), by repeat (first | (with_reducible first | exact HB.out | apply below_alloc | apply pw_below_drewN | apply below_drew1 | refine below_set ?_ GE322.out) | exact HB.out)⟩

def trans_turner_turn.j0 : Nat → Bool → Int → Int → Int → Int → Int → Int → Int → Int → Int → Int → Bool → Int → Int → Option (Int)
  | 0, _, _, _, _, _, _, _, _, _, _, _, _, _, _ => none
  | k + 1, x31, x329000, x329001, x329002, x329003, x329004, x329005, x329006, x329007, x329008, x330000, x330001, x330002, x330003 => if x31 = true then (some x329006) else ((trans_turner_huge.f k x329000 x329001 x329002 x329003 x329004 x329005 x329006 x329007 x329008 x330001).bind fun t330 => (some t330))
def trans_turner_turn.f (k : Nat) (a0_0 : Int) (a0_1 : Int) (a0_2 : Int) (a0_3 : Int) (a0_4 : Int) (a0_5 : Int) (a0_6 : Int) (a0_7 : Int) (a0_8 : Int) (a1_0 : Int) (a1_1 : Bool) (a1_2 : Int) (a1_3 : Int) : Option (Int) := if a1_0 = 4 then (some a0_6) else (if a1_0 = 3 then (if a0_0 = 1 then (trans_turner_turn.j0 k true a0_0 a0_1 a0_2 a0_3 a0_4 a0_5 a0_6 a0_7 a0_8 a1_0 a1_1 a1_2 a1_3) else (if a0_0 = 4 then (trans_turner_turn.j0 k a1_1 a0_0 a0_1 a0_2 a0_3 a0_4 a0_5 a0_6 a0_7 a0_8 a1_0 a1_1 a1_2 a1_3) else (trans_turner_turn.j0 k false a0_0 a0_1 a0_2 a0_3 a0_4 a0_5 a0_6 a0_7 a0_8 a1_0 a1_1 a1_2 a1_3))) else ((exact_Of.f a1_0 a1_1 a1_2 a1_3).bind fun bt331 => ((round_Round.f k a0_7 a0_8 bt331.1 bt331.2.1 bt331.2.2.1 bt331.2.2.2.1).bind fun bt339 => (some bt339.1))))
theorem trans_turner_turn.mono_l : ∀ k, (∀ y0 y1 y2 y3 y4 y5 y6 y7 y8 y9 y10 y11 y12 y13, LeO (trans_turner_turn.j0 k y0 y1 y2 y3 y4 y5 y6 y7 y8 y9 y10 y11 y12 y13) (trans_turner_turn.j0 (k + 1) y0 y1 y2 y3 y4 y5 y6 y7 y8 y9 y10 y11 y12 y13))
  | 0 => fun _ _ _ _ _ _ _ _ _ _ _ _ _ _ r h => by simp [trans_turner_turn.j0] at h
  | k + 1 => by
    have ih0 := trans_turner_turn.mono_l k
    · intro y0 y1 y2 y3 y4 y5 y6 y7 y8 y9 y10 y11 y12 y13
      unfold trans_turner_turn.j0
      repeat' first
      | (with_reducible exact ih0 _ _ _ _ _ _ _ _ _ _ _ _ _ _)
      | (with_reducible exact round_Round.mono _ _ _ _ _ _ _)
      | (with_reducible exact trans_turner_huge.mono _ _ _ _ _ _ _ _ _ _ _)
      | (with_reducible exact LeO.refl _)
      | (with_reducible exact LeO.none _)
      | (with_reducible refine LeO.ite ?_ ?_)
      | (with_reducible refine LeO.bind ?_ (fun _ => ?_))
      | exact ih0 _ _ _ _ _ _ _ _ _ _ _ _ _ _
      | exact round_Round.mono _ _ _ _ _ _ _
      | exact trans_turner_huge.mono _ _ _ _ _ _ _ _ _ _ _
      | exact LeO.none _
      | refine LeO.ite ?_ ?_
      | refine LeO.bind ?_ (fun _ => ?_)
theorem trans_turner_turn.mono : ∀ a0 a1 a2 a3 a4 a5 a6 a7 a8 a9 a10 a11 a12 k, LeO (trans_turner_turn.f k a0 a1 a2 a3 a4 a5 a6 a7 a8 a9 a10 a11 a12) (trans_turner_turn.f (k + 1) a0 a1 a2 a3 a4 a5 a6 a7 a8 a9 a10 a11 a12) := by
  intro a0 a1 a2 a3 a4 a5 a6 a7 a8 a9 a10 a11 a12 k
  have ih0 := trans_turner_turn.mono_l k
  unfold trans_turner_turn.f
  repeat' first
      | (with_reducible exact ih0 _ _ _ _ _ _ _ _ _ _ _ _ _ _)
      | (with_reducible exact round_Round.mono _ _ _ _ _ _ _)
      | (with_reducible exact trans_turner_huge.mono _ _ _ _ _ _ _ _ _ _ _)
      | (with_reducible exact LeO.refl _)
      | (with_reducible exact LeO.none _)
      | (with_reducible refine LeO.ite ?_ ?_)
      | (with_reducible refine LeO.bind ?_ (fun _ => ?_))
      | exact ih0 _ _ _ _ _ _ _ _ _ _ _ _ _ _
      | exact round_Round.mono _ _ _ _ _ _ _
      | exact trans_turner_huge.mono _ _ _ _ _ _ _ _ _ _ _
      | exact LeO.none _
      | refine LeO.ite ?_ ?_
      | refine LeO.bind ?_ (fun _ => ?_)
set_option maxHeartbeats 8000000 in
set_option maxRecDepth 100000 in
theorem trans_turner_turn.calls (k : Nat) (a0_0 : Int) (a0_1 : Int) (a0_2 : Int) (a0_3 : Int) (a0_4 : Int) (a0_5 : Int) (a0_6 : Int) (a0_7 : Int) (a0_8 : Int) (a1_0 : Int) (a1_1 : Bool) (a1_2 : Int) (a1_3 : Int) (r : Int) (w : World) (hG : Glob w) (h : trans_turner_turn.f k a0_0 a0_1 a0_2 a0_3 a0_4 a0_5 a0_6 a0_7 a0_8 a1_0 a1_1 a1_2 a1_3 = some r) :
    Calls Tryd.prog 20 #[.agg #[.int .i64 a0_0, .int .i64 a0_1, .int .i64 a0_2, .int .i64 a0_3, .int .u64 a0_4, .int .u64 a0_5, .int .u64 a0_6, .int .i64 a0_7, .int .i64 a0_8], .agg #[.int .i64 a1_0, .bool a1_1, .int .u64 a1_2, .int .i64 a1_3]] w fun e w' => e = .returned (.int .u64 r) ∧ Below w.heap.size w w' := by
  have hu54 := Tryd.underlying54
  have hu31 := Tryd.underlying31
  have hu37 := Tryd.underlying37
  have HG := Aside0.mk hG
  clear hG
  have HB := Aside0.mk (Below.refl w.heap.size w)
  have H : (if a1_0 = 4 then (some a0_6) else (if a1_0 = 3 then (if a0_0 = 1 then (trans_turner_turn.j0 k true a0_0 a0_1 a0_2 a0_3 a0_4 a0_5 a0_6 a0_7 a0_8 a1_0 a1_1 a1_2 a1_3) else (if a0_0 = 4 then (trans_turner_turn.j0 k a1_1 a0_0 a0_1 a0_2 a0_3 a0_4 a0_5 a0_6 a0_7 a0_8 a1_0 a1_1 a1_2 a1_3) else (trans_turner_turn.j0 k false a0_0 a0_1 a0_2 a0_3 a0_4 a0_5 a0_6 a0_7 a0_8 a1_0 a1_1 a1_2 a1_3))) else ((exact_Of.f a1_0 a1_1 a1_2 a1_3).bind fun bt331 => ((round_Round.f k a0_7 a0_8 bt331.1 bt331.2.1 bt331.2.2.1 bt331.2.2.2.1).bind fun bt339 => (some bt339.1))))) = some r := h
  clear h
  by_cases c3 : a1_0 = 4
  · rw [if_pos c3] at H
    have c3b0 : (a1_0 == 4) = true := beq_iff_eq.mpr c3
    have c3b1 : (a1_0 != 4) = false := bne_eq_false_iff_eq.mpr c3
    clear c3
    obtain rfl := Option.some.inj H
    go_enter Tryd.func20, Tryd.ntmps20
    go_wp2_with (first | ((with_reducible refine gate_dst (N := 2) rfl ?_); refine box_event ?hg (N := 2) ?hd (cs := #[.int .i64 a0_0, .int .i64 a0_1, .int .i64 a0_2, .int .i64 a0_3, .int .u64 a0_4, .int .u64 a0_5, .int .u64 a0_6, .int .i64 a0_7, .int .i64 a0_8]) (t := 54) ?hr ?_; (case hd => rfl); (case hg => rfl); (case hr => first | (go_simp; done) | (go_simp; rfl)); intro gb328 hg w4 hbox hb; have n0_ := Aside0.mk (below_step (by repeat (first | (with_reducible first | exact HB.out | apply below_alloc | apply pw_below_drewN | apply below_drew1) | exact HB.out)) hb); have n1_ := Aside0.mk (hbox); have n2_ := Aside0.mk ((by rw [hg]; exact (below_size (by repeat (first | (with_reducible first | exact HB.out | apply below_alloc | apply pw_below_drewN | apply below_drew1) | exact HB.out))) : w.heap.size ≤ gb328)); have n3_ := Aside0.mk ((by rw [hg]; exact (below_size (by repeat (first | (with_reducible first | exact HB.out | apply below_alloc | apply pw_below_drewN | apply below_drew1) | exact HB.out))) : w.heap.size ≤ gb328)); clear HB; have HB := n0_; have BK328 := n1_; have GW328 := n2_; have GE328 := n3_; clear n0_ n1_ n2_ n3_; clear hb hbox hg) | ((with_reducible refine gate_dst (N := 3) rfl ?_); refine box_event ?hg (N := 3) ?hd (cs := #[.int .i64 a1_0, .bool a1_1, .int .u64 a1_2, .int .i64 a1_3]) (t := 31) ?hr ?_; (case hd => rfl); (case hg => rfl); (case hr => first | (go_simp; done) | (go_simp; rfl)); intro gb329 hg w5 hbox hb; have n0_ := Aside0.mk (blk_below (g := gb328) (o := .cells #[.int .i64 a0_0, .int .i64 a0_1, .int .i64 a0_2, .int .i64 a0_3, .int .u64 a0_4, .int .u64 a0_5, .int .u64 a0_6, .int .i64 a0_7, .int .i64 a0_8] 54 (0, 0)) (by (with_reducible repeat (first | refine blk_drewN ?_ _ | refine blk_drew ?_ | refine blk_alloc ?_ _)); exact BK328.out) hb); have n1_ := Aside0.mk (below_step (by repeat (first | (with_reducible first | exact HB.out | apply below_alloc | apply pw_below_drewN | apply below_drew1 | refine below_set ?_ GE328.out) | exact HB.out)) hb); have n2_ := Aside0.mk (hbox); have n3_ := Aside0.mk ((by rw [hg]; exact (below_size (by repeat (first | (with_reducible first | exact HB.out | apply below_alloc | apply pw_below_drewN | apply below_drew1 | refine below_set ?_ GE328.out) | exact HB.out))) : w.heap.size ≤ gb329)); have n4_ := Aside0.mk ((by rw [hg]; exact (below_size (by repeat (first | (with_reducible first | exact HB.out | apply below_alloc | apply pw_below_drewN | apply below_drew1 | refine below_set ?_ GE328.out) | exact HB.out))) : w.heap.size ≤ gb329)); have n5_ := Aside0.mk ((by rw [hg]; exact Nat.ne_of_lt (blk_lt (g := gb328) (o := .cells #[.int .i64 a0_0, .int .i64 a0_1, .int .i64 a0_2, .int .i64 a0_3, .int .u64 a0_4, .int .u64 a0_5, .int .u64 a0_6, .int .i64 a0_7, .int .i64 a0_8] 54 (0, 0)) (by (with_reducible repeat (first | refine blk_drewN ?_ _ | refine blk_drew ?_ | refine blk_alloc ?_ _)); exact BK328.out)) : gb328 ≠ gb329)); have n6_ := Aside0.mk ((by rw [hg]; exact Nat.ne_of_gt (blk_lt (g := gb328) (o := .cells #[.int .i64 a0_0, .int .i64 a0_1, .int .i64 a0_2, .int .i64 a0_3, .int .u64 a0_4, .int .u64 a0_5, .int .u64 a0_6, .int .i64 a0_7, .int .i64 a0_8] 54 (0, 0)) (by (with_reducible repeat (first | refine blk_drewN ?_ _ | refine blk_drew ?_ | refine blk_alloc ?_ _)); exact BK328.out)) : gb329 ≠ gb328)); clear BK328; clear HB; have BK328 := n0_; have HB := n1_; have BK329 := n2_; have GW329 := n3_; have GE329 := n4_; have NB328_329 := n5_; have NB329_328 := n6_; clear n0_ n1_ n2_ n3_ n4_ n5_ n6_; clear hb hbox hg; have hnb6 := NB329_328.out; have hnc6 := NB328_329.out; have hcz7_0 : w5.cell? ⟨gb329, 0, none⟩ = some (.int .i64 a1_0) := (blk_cell BK329.out 0).trans rfl; have hcz7_1 : w5.cell? ⟨gb329, 1, none⟩ = some (.bool a1_1) := (blk_cell BK329.out 1).trans rfl; have hcz7_2 : w5.cell? ⟨gb329, 2, none⟩ = some (.int .u64 a1_2) := (blk_cell BK329.out 2).trans rfl; have hcz7_3 : w5.cell? ⟨gb329, 3, none⟩ = some (.int .i64 a1_3) := (blk_cell BK329.out 3).trans rfl; have hfz7_0 := blk_frozen BK329.out 0; have hfz7_1 := blk_frozen BK329.out 1; have hfz7_2 := blk_frozen BK329.out 2; have hfz7_3 := blk_frozen BK329.out 3; have hcz8_0 : w5.cell? ⟨gb328, 0, none⟩ = some (.int .i64 a0_0) := (blk_cell BK328.out 0).trans rfl; have hcz8_1 : w5.cell? ⟨gb328, 1, none⟩ = some (.int .i64 a0_1) := (blk_cell BK328.out 1).trans rfl; have hcz8_2 : w5.cell? ⟨gb328, 2, none⟩ = some (.int .i64 a0_2) := (blk_cell BK328.out 2).trans rfl; have hcz8_3 : w5.cell? ⟨gb328, 3, none⟩ = some (.int .i64 a0_3) := (blk_cell BK328.out 3).trans rfl; have hcz8_4 : w5.cell? ⟨gb328, 4, none⟩ = some (.int .u64 a0_4) := (blk_cell BK328.out 4).trans rfl; have hcz8_5 : w5.cell? ⟨gb328, 5, none⟩ = some (.int .u64 a0_5) := (blk_cell BK328.out 5).trans rfl; have hcz8_6 : w5.cell? ⟨gb328, 6, none⟩ = some (.int .u64 a0_6) := (blk_cell BK328.out 6).trans rfl; have hcz8_7 : w5.cell? ⟨gb328, 7, none⟩ = some (.int .i64 a0_7) := (blk_cell BK328.out 7).trans rfl; have hcz8_8 : w5.cell? ⟨gb328, 8, none⟩ = some (.int .i64 a0_8) := (blk_cell BK328.out 8).trans rfl; have hfz8_0 := blk_frozen BK328.out 0; have hfz8_1 := blk_frozen BK328.out 1; have hfz8_2 := blk_frozen BK328.out 2; have hfz8_3 := blk_frozen BK328.out 3; have hfz8_4 := blk_frozen BK328.out 4; have hfz8_5 := blk_frozen BK328.out 5; have hfz8_6 := blk_frozen BK328.out 6; have hfz8_7 := blk_frozen BK328.out 7; have hfz8_8 := blk_frozen BK328.out 8))
    go_ret
    exact ⟨by first | rfl | (simp [errW_none, errW_some] <;> rfl) | (simp [*, errW_none, errW_some] <;> rfl), by repeat (first | (with_reducible first | exact HB.out | apply below_alloc | apply pw_below_drewN | apply below_drew1 | refine below_set ?_ GE328.out | refine below_set ?_ GE329.out) | exact HB.out)⟩
  · rw [if_neg c3] at H
    have c3b0 : (a1_0 == 4) = false := beq_eq_false_iff_ne.mpr c3
    have c3b1 : (a1_0 != 4) = true := bne_iff_ne.mpr c3
    by_cases c9 : a1_0 = 3
    · rw [if_pos c9] at H
      have c9b0 : (a1_0 == 3) = true := beq_iff_eq.mpr c9
      have c9b1 : (a1_0 != 3) = false := bne_eq_false_iff_eq.mpr c9
      clear c9
      have HC10 := Aside0.mk H
      clear H
      go_enter Tryd.func20, Tryd.ntmps20
      go_upto_region 5 with (first | ((with_reducible refine gate_dst (N := 2) rfl ?_); refine box_event ?hg (N := 2) ?hd (cs := #[.int .i64 a0_0, .int .i64 a0_1, .int .i64 a0_2, .int .i64 a0_3, .int .u64 a0_4, .int .u64 a0_5, .int .u64 a0_6, .int .i64 a0_7, .int .i64 a0_8]) (t := 54) ?hr ?_; (case hd => rfl); (case hg => rfl); (case hr => first | (go_simp; done) | (go_simp; rfl)); intro gb328 hg w11 hbox hb; have n0_ := Aside0.mk (below_step (by repeat (first | (with_reducible first | exact HB.out | apply below_alloc | apply pw_below_drewN | apply below_drew1) | exact HB.out)) hb); have n1_ := Aside0.mk (hbox); have n2_ := Aside0.mk ((by rw [hg]; exact (below_size (by repeat (first | (with_reducible first | exact HB.out | apply below_alloc | apply pw_below_drewN | apply below_drew1) | exact HB.out))) : w.heap.size ≤ gb328)); have n3_ := Aside0.mk ((by rw [hg]; exact (below_size (by repeat (first | (with_reducible first | exact HB.out | apply below_alloc | apply pw_below_drewN | apply below_drew1) | exact HB.out))) : w.heap.size ≤ gb328)); clear HB; have HB := n0_; have BK328 := n1_; have GW328 := n2_; have GE328 := n3_; clear n0_ n1_ n2_ n3_; clear hb hbox hg) | ((with_reducible refine gate_dst (N := 3) rfl ?_); refine box_event ?hg (N := 3) ?hd (cs := #[.int .i64 a1_0, .bool a1_1, .int .u64 a1_2, .int .i64 a1_3]) (t := 31) ?hr ?_; (case hd => rfl); (case hg => rfl); (case hr => first | (go_simp; done) | (go_simp; rfl)); intro gb329 hg w12 hbox hb; have n0_ := Aside0.mk (blk_below (g := gb328) (o := .cells #[.int .i64 a0_0, .int .i64 a0_1, .int .i64 a0_2, .int .i64 a0_3, .int .u64 a0_4, .int .u64 a0_5, .int .u64 a0_6, .int .i64 a0_7, .int .i64 a0_8] 54 (0, 0)) (by (with_reducible repeat (first | refine blk_drewN ?_ _ | refine blk_drew ?_ | refine blk_alloc ?_ _)); exact BK328.out) hb); have n1_ := Aside0.mk (below_step (by repeat (first | (with_reducible first | exact HB.out | apply below_alloc | apply pw_below_drewN | apply below_drew1 | refine below_set ?_ GE328.out) | exact HB.out)) hb); have n2_ := Aside0.mk (hbox); have n3_ := Aside0.mk ((by rw [hg]; exact (below_size (by repeat (first | (with_reducible first | exact HB.out | apply below_alloc | apply pw_below_drewN | apply below_drew1 | refine below_set ?_ GE328.out) | exact HB.out))) : w.heap.size ≤ gb329)); have n4_ := Aside0.mk ((by rw [hg]; exact (below_size (by repeat (first | (with_reducible first | exact HB.out | apply below_alloc | apply pw_below_drewN | apply below_drew1 | refine below_set ?_ GE328.out) | exact HB.out))) : w.heap.size ≤ gb329)); have n5_ := Aside0.mk ((by rw [hg]; exact Nat.ne_of_lt (blk_lt (g := gb328) (o := .cells #[.int .i64 a0_0, .int .i64 a0_1, .int .i64 a0_2, .int .i64 a0_3, .int .u64 a0_4, .int .u64 a0_5, .int .u64 a0_6, .int .i64 a0_7, .int .i64 a0_8] 54 (0, 0)) (by (with_reducible repeat (first | refine blk_drewN ?_ _ | refine blk_drew ?_ | refine blk_alloc ?_ _)); exact BK328.out)) : gb328 ≠ gb329)); have n6_ := Aside0.mk ((by rw [hg]; exact Nat.ne_of_gt (blk_lt (g := gb328) (o := .cells #[.int .i64 a0_0, .int .i64 a0_1, .int .i64 a0_2, .int .i64 a0_3, .int .u64 a0_4, .int .u64 a0_5, .int .u64 a0_6, .int .i64 a0_7, .int .i64 a0_8] 54 (0, 0)) (by (with_reducible repeat (first | refine blk_drewN ?_ _ | refine blk_drew ?_ | refine blk_alloc ?_ _)); exact BK328.out)) : gb329 ≠ gb328)); clear BK328; clear HB; have BK328 := n0_; have HB := n1_; have BK329 := n2_; have GW329 := n3_; have GE329 := n4_; have NB328_329 := n5_; have NB329_328 := n6_; clear n0_ n1_ n2_ n3_ n4_ n5_ n6_; clear hb hbox hg; have hnb13 := NB329_328.out; have hnc13 := NB328_329.out; have hcz14_0 : w12.cell? ⟨gb329, 0, none⟩ = some (.int .i64 a1_0) := (blk_cell BK329.out 0).trans rfl; have hcz14_1 : w12.cell? ⟨gb329, 1, none⟩ = some (.bool a1_1) := (blk_cell BK329.out 1).trans rfl; have hcz14_2 : w12.cell? ⟨gb329, 2, none⟩ = some (.int .u64 a1_2) := (blk_cell BK329.out 2).trans rfl; have hcz14_3 : w12.cell? ⟨gb329, 3, none⟩ = some (.int .i64 a1_3) := (blk_cell BK329.out 3).trans rfl; have hfz14_0 := blk_frozen BK329.out 0; have hfz14_1 := blk_frozen BK329.out 1; have hfz14_2 := blk_frozen BK329.out 2; have hfz14_3 := blk_frozen BK329.out 3))
      (try simp only [Act.put, List.setIfInBounds_toArray, List.set_cons_zero, List.set_cons_succ])
      go_cut [31] (fun v31 wc => ∃ (kq : Nat) (x31_9 : Bool), v31 = .bool x31_9 ∧ Aside0 (trans_turner_turn.j0 kq x31_9 a0_0 a0_1 a0_2 a0_3 a0_4 a0_5 a0_6 a0_7 a0_8 a1_0 a1_1 a1_2 a1_3 = some r) ∧ Aside0 (kq ≤ k) ∧ Aside0 (wc.heap[gb328]? = some (.cells #[.int .i64 a0_0, .int .i64 a0_1, .int .i64 a0_2, .int .i64 a0_3, .int .u64 a0_4, .int .u64 a0_5, .int .u64 a0_6, .int .i64 a0_7, .int .i64 a0_8] 54 (0, 0))) ∧ Aside0 (wc.heap[gb329]? = some (.cells #[.int .i64 a1_0, .bool a1_1, .int .u64 a1_2, .int .i64 a1_3] 31 (0, 0))) ∧ Aside0 (Below w.heap.size w wc))
      case first =>
        have H := HC10.out
        clear HC10
        by_cases c15 : a0_0 = 1
        · rw [if_pos c15] at H
          have c15b0 : (a0_0 == 1) = true := beq_iff_eq.mpr c15
          have c15b1 : (a0_0 != 1) = false := bne_eq_false_iff_eq.mpr c15
          clear c15
          (first | rw [c15b0] | (simp only [i64_w, i32_w]; rw [c15b0]) | skip)
          have H' := Aside0.mk H
          clear H
          have hnb16 := NB328_329.out
          have hnc16 := NB329_328.out
          have hcz17_0 : w12.cell? ⟨gb328, 0, none⟩ = some (.int .i64 a0_0) := (blk_cell BK328.out 0).trans rfl
          have hcz17_1 : w12.cell? ⟨gb328, 1, none⟩ = some (.int .i64 a0_1) := (blk_cell BK328.out 1).trans rfl
          have hcz17_2 : w12.cell? ⟨gb328, 2, none⟩ = some (.int .i64 a0_2) := (blk_cell BK328.out 2).trans rfl
          have hcz17_3 : w12.cell? ⟨gb328, 3, none⟩ = some (.int .i64 a0_3) := (blk_cell BK328.out 3).trans rfl
          have hcz17_4 : w12.cell? ⟨gb328, 4, none⟩ = some (.int .u64 a0_4) := (blk_cell BK328.out 4).trans rfl
          have hcz17_5 : w12.cell? ⟨gb328, 5, none⟩ = some (.int .u64 a0_5) := (blk_cell BK328.out 5).trans rfl
          have hcz17_6 : w12.cell? ⟨gb328, 6, none⟩ = some (.int .u64 a0_6) := (blk_cell BK328.out 6).trans rfl
          have hcz17_7 : w12.cell? ⟨gb328, 7, none⟩ = some (.int .i64 a0_7) := (blk_cell BK328.out 7).trans rfl
          have hcz17_8 : w12.cell? ⟨gb328, 8, none⟩ = some (.int .i64 a0_8) := (blk_cell BK328.out 8).trans rfl
          have hfz17_0 := blk_frozen BK328.out 0
          have hfz17_1 := blk_frozen BK328.out 1
          have hfz17_2 := blk_frozen BK328.out 2
          have hfz17_3 := blk_frozen BK328.out 3
          have hfz17_4 := blk_frozen BK328.out 4
          have hfz17_5 := blk_frozen BK328.out 5
          have hfz17_6 := blk_frozen BK328.out 6
          have hfz17_7 := blk_frozen BK328.out 7
          have hfz17_8 := blk_frozen BK328.out 8
          go_wp2
          go_meet
          case rel => exact ⟨_, (true), (by first | rfl | (simp; done) | (simp [*]; done)), H', ⟨by first | omega | exact Nat.le_refl _⟩, ⟨by (with_reducible repeat (first | refine blk_drewN ?_ _ | refine blk_drew ?_ | refine blk_alloc ?_ _)); exact BK328.out⟩, ⟨by (with_reducible repeat (first | refine blk_drewN ?_ _ | refine blk_drew ?_ | refine blk_alloc ?_ _)); exact BK329.out⟩, ⟨by repeat (first | (with_reducible first | exact HB.out | apply below_alloc | apply pw_below_drewN | apply below_drew1 | refine below_set ?_ GE328.out | refine below_set ?_ GE329.out) | exact HB.out)⟩⟩
        · rw [if_neg c15] at H
          have c15b0 : (a0_0 == 1) = false := beq_eq_false_iff_ne.mpr c15
          have c15b1 : (a0_0 != 1) = true := bne_iff_ne.mpr c15
          (first | rw [c15b0] | (simp only [i64_w, i32_w]; rw [c15b0]) | skip)
          by_cases c18 : a0_0 = 4
          · rw [if_pos c18] at H
            have c18b0 : (a0_0 == 4) = true := beq_iff_eq.mpr c18
            have c18b1 : (a0_0 != 4) = false := bne_eq_false_iff_eq.mpr c18
            clear c18
            have H' := Aside0.mk H
            clear H
            have hnb19 := NB328_329.out
            have hnc19 := NB329_328.out
            have hcz20_0 : w12.cell? ⟨gb328, 0, none⟩ = some (.int .i64 a0_0) := (blk_cell BK328.out 0).trans rfl
            have hcz20_1 : w12.cell? ⟨gb328, 1, none⟩ = some (.int .i64 a0_1) := (blk_cell BK328.out 1).trans rfl
            have hcz20_2 : w12.cell? ⟨gb328, 2, none⟩ = some (.int .i64 a0_2) := (blk_cell BK328.out 2).trans rfl
            have hcz20_3 : w12.cell? ⟨gb328, 3, none⟩ = some (.int .i64 a0_3) := (blk_cell BK328.out 3).trans rfl
            have hcz20_4 : w12.cell? ⟨gb328, 4, none⟩ = some (.int .u64 a0_4) := (blk_cell BK328.out 4).trans rfl
            have hcz20_5 : w12.cell? ⟨gb328, 5, none⟩ = some (.int .u64 a0_5) := (blk_cell BK328.out 5).trans rfl
            have hcz20_6 : w12.cell? ⟨gb328, 6, none⟩ = some (.int .u64 a0_6) := (blk_cell BK328.out 6).trans rfl
            have hcz20_7 : w12.cell? ⟨gb328, 7, none⟩ = some (.int .i64 a0_7) := (blk_cell BK328.out 7).trans rfl
            have hcz20_8 : w12.cell? ⟨gb328, 8, none⟩ = some (.int .i64 a0_8) := (blk_cell BK328.out 8).trans rfl
            have hfz20_0 := blk_frozen BK328.out 0
            have hfz20_1 := blk_frozen BK328.out 1
            have hfz20_2 := blk_frozen BK328.out 2
            have hfz20_3 := blk_frozen BK328.out 3
            have hfz20_4 := blk_frozen BK328.out 4
            have hfz20_5 := blk_frozen BK328.out 5
            have hfz20_6 := blk_frozen BK328.out 6
            have hfz20_7 := blk_frozen BK328.out 7
            have hfz20_8 := blk_frozen BK328.out 8
            have hcz21_0 : w12.cell? ⟨gb329, 0, none⟩ = some (.int .i64 a1_0) := (blk_cell BK329.out 0).trans rfl
            have hcz21_1 : w12.cell? ⟨gb329, 1, none⟩ = some (.bool a1_1) := (blk_cell BK329.out 1).trans rfl
            have hcz21_2 : w12.cell? ⟨gb329, 2, none⟩ = some (.int .u64 a1_2) := (blk_cell BK329.out 2).trans rfl
            have hcz21_3 : w12.cell? ⟨gb329, 3, none⟩ = some (.int .i64 a1_3) := (blk_cell BK329.out 3).trans rfl
            have hfz21_0 := blk_frozen BK329.out 0
            have hfz21_1 := blk_frozen BK329.out 1
            have hfz21_2 := blk_frozen BK329.out 2
            have hfz21_3 := blk_frozen BK329.out 3
            go_wp2
            go_meet
            case rel => exact ⟨_, (a1_1), (by first | rfl | (simp; done) | (simp [*]; done)), H', ⟨by first | omega | exact Nat.le_refl _⟩, ⟨by (with_reducible repeat (first | refine blk_drewN ?_ _ | refine blk_drew ?_ | refine blk_alloc ?_ _)); exact BK328.out⟩, ⟨by (with_reducible repeat (first | refine blk_drewN ?_ _ | refine blk_drew ?_ | refine blk_alloc ?_ _)); exact BK329.out⟩, ⟨by repeat (first | (with_reducible first | exact HB.out | apply below_alloc | apply pw_below_drewN | apply below_drew1 | refine below_set ?_ GE328.out | refine below_set ?_ GE329.out) | exact HB.out)⟩⟩
          · rw [if_neg c18] at H
            have c18b0 : (a0_0 == 4) = false := beq_eq_false_iff_ne.mpr c18
            have c18b1 : (a0_0 != 4) = true := bne_iff_ne.mpr c18
            have H' := Aside0.mk H
            clear H
            have hnb22 := NB328_329.out
            have hnc22 := NB329_328.out
            have hcz23_0 : w12.cell? ⟨gb328, 0, none⟩ = some (.int .i64 a0_0) := (blk_cell BK328.out 0).trans rfl
            have hcz23_1 : w12.cell? ⟨gb328, 1, none⟩ = some (.int .i64 a0_1) := (blk_cell BK328.out 1).trans rfl
            have hcz23_2 : w12.cell? ⟨gb328, 2, none⟩ = some (.int .i64 a0_2) := (blk_cell BK328.out 2).trans rfl
            have hcz23_3 : w12.cell? ⟨gb328, 3, none⟩ = some (.int .i64 a0_3) := (blk_cell BK328.out 3).trans rfl
            have hcz23_4 : w12.cell? ⟨gb328, 4, none⟩ = some (.int .u64 a0_4) := (blk_cell BK328.out 4).trans rfl
            have hcz23_5 : w12.cell? ⟨gb328, 5, none⟩ = some (.int .u64 a0_5) := (blk_cell BK328.out 5).trans rfl
            have hcz23_6 : w12.cell? ⟨gb328, 6, none⟩ = some (.int .u64 a0_6) := (blk_cell BK328.out 6).trans rfl
            have hcz23_7 : w12.cell? ⟨gb328, 7, none⟩ = some (.int .i64 a0_7) := (blk_cell BK328.out 7).trans rfl
            have hcz23_8 : w12.cell? ⟨gb328, 8, none⟩ = some (.int .i64 a0_8) := (blk_cell BK328.out 8).trans rfl
            have hfz23_0 := blk_frozen BK328.out 0
            have hfz23_1 := blk_frozen BK328.out 1
            have hfz23_2 := blk_frozen BK328.out 2
            have hfz23_3 := blk_frozen BK328.out 3
            have hfz23_4 := blk_frozen BK328.out 4
            have hfz23_5 := blk_frozen BK328.out 5
            have hfz23_6 := blk_frozen BK328.out 6
            have hfz23_7 := blk_frozen BK328.out 7
            have hfz23_8 := blk_frozen BK328.out 8
            go_wp2
            go_meet
            case rel => exact ⟨_, (false), (by first | rfl | (simp; done) | (simp [*]; done)), H', ⟨by first | omega | exact Nat.le_refl _⟩, ⟨by (with_reducible repeat (first | refine blk_drewN ?_ _ | refine blk_drew ?_ | refine blk_alloc ?_ _)); exact BK328.out⟩, ⟨by (with_reducible repeat (first | refine blk_drewN ?_ _ | refine blk_drew ?_ | refine blk_alloc ?_ _)); exact BK329.out⟩, ⟨by repeat (first | (with_reducible first | exact HB.out | apply below_alloc | apply pw_below_drewN | apply below_drew1 | refine below_set ?_ GE328.out | refine below_set ?_ GE329.out) | exact HB.out)⟩⟩
      case rest =>
        clear HC10
        try clear c1
        try clear c2
        try clear p2
        try clear c3
        try clear c3b0
        try clear c3b1
        try clear c6
        try clear c9
        try clear c9b0
        try clear c9b1
        try clear c13
        try clear c15
        try clear c15b0
        try clear c15b1
        try clear c16
        try clear c18
        try clear c18b0
        try clear c18b1
        try clear c19
        try clear c20
        try clear c22
        try clear hcz14_0
        try clear hcz14_1
        try clear hcz14_2
        try clear hcz14_3
        try clear hcz17_0
        try clear hcz17_1
        try clear hcz17_2
        try clear hcz17_3
        try clear hcz17_4
        try clear hcz17_5
        try clear hcz17_6
        try clear hcz17_7
        try clear hcz17_8
        try clear hcz20_0
        try clear hcz20_1
        try clear hcz20_2
        try clear hcz20_3
        try clear hcz20_4
        try clear hcz20_5
        try clear hcz20_6
        try clear hcz20_7
        try clear hcz20_8
        try clear hcz21_0
        try clear hcz21_1
        try clear hcz21_2
        try clear hcz21_3
        try clear hcz23_0
        try clear hcz23_1
        try clear hcz23_2
        try clear hcz23_3
        try clear hcz23_4
        try clear hcz23_5
        try clear hcz23_6
        try clear hcz23_7
        try clear hcz23_8
        try clear hcz7_0
        try clear hcz7_1
        try clear hcz7_2
        try clear hcz7_3
        try clear hcz8_0
        try clear hcz8_1
        try clear hcz8_2
        try clear hcz8_3
        try clear hcz8_4
        try clear hcz8_5
        try clear hcz8_6
        try clear hcz8_7
        try clear hcz8_8
        try clear hfz14_0
        try clear hfz14_1
        try clear hfz14_2
        try clear hfz14_3
        try clear hfz17_0
        try clear hfz17_1
        try clear hfz17_2
        try clear hfz17_3
        try clear hfz17_4
        try clear hfz17_5
        try clear hfz17_6
        try clear hfz17_7
        try clear hfz17_8
        try clear hfz20_0
        try clear hfz20_1
        try clear hfz20_2
        try clear hfz20_3
        try clear hfz20_4
        try clear hfz20_5
        try clear hfz20_6
        try clear hfz20_7
        try clear hfz20_8
        try clear hfz21_0
        try clear hfz21_1
        try clear hfz21_2
        try clear hfz21_3
        try clear hfz23_0
        try clear hfz23_1
        try clear hfz23_2
        try clear hfz23_3
        try clear hfz23_4
        try clear hfz23_5
        try clear hfz23_6
        try clear hfz23_7
        try clear hfz23_8
        try clear hfz7_0
        try clear hfz7_1
        try clear hfz7_2
        try clear hfz7_3
        try clear hfz8_0
        try clear hfz8_1
        try clear hfz8_2
        try clear hfz8_3
        try clear hfz8_4
        try clear hfz8_5
        try clear hfz8_6
        try clear hfz8_7
        try clear hfz8_8
        obtain ⟨kq, x31_9, rfl, HA, HJ9, BK328, BK329, HB⟩ := hcut
        cases kq with
        | zero => exact absurd HA.out (by simp [trans_turner_turn.j0])
        | succ kj9 =>
          have H := HA.out
          clear HA
          simp only [trans_turner_turn.j0] at H
          by_cases c24 : x31_9 = true
          · subst c24
            have H1 : (some a0_6) = some r := by rw [if_pos rfl] at H; exact H
            clear H
            have H := H1
            clear H1
            obtain rfl := Option.some.inj H
            have hnb25 := NB328_329.out
            have hnc25 := NB329_328.out
            have hcz26_0 : wc.cell? ⟨gb328, 0, none⟩ = some (.int .i64 a0_0) := (blk_cell BK328.out 0).trans rfl
            have hcz26_1 : wc.cell? ⟨gb328, 1, none⟩ = some (.int .i64 a0_1) := (blk_cell BK328.out 1).trans rfl
            have hcz26_2 : wc.cell? ⟨gb328, 2, none⟩ = some (.int .i64 a0_2) := (blk_cell BK328.out 2).trans rfl
            have hcz26_3 : wc.cell? ⟨gb328, 3, none⟩ = some (.int .i64 a0_3) := (blk_cell BK328.out 3).trans rfl
            have hcz26_4 : wc.cell? ⟨gb328, 4, none⟩ = some (.int .u64 a0_4) := (blk_cell BK328.out 4).trans rfl
            have hcz26_5 : wc.cell? ⟨gb328, 5, none⟩ = some (.int .u64 a0_5) := (blk_cell BK328.out 5).trans rfl
            have hcz26_6 : wc.cell? ⟨gb328, 6, none⟩ = some (.int .u64 a0_6) := (blk_cell BK328.out 6).trans rfl
            have hcz26_7 : wc.cell? ⟨gb328, 7, none⟩ = some (.int .i64 a0_7) := (blk_cell BK328.out 7).trans rfl
            have hcz26_8 : wc.cell? ⟨gb328, 8, none⟩ = some (.int .i64 a0_8) := (blk_cell BK328.out 8).trans rfl
            have hfz26_0 := blk_frozen BK328.out 0
            have hfz26_1 := blk_frozen BK328.out 1
            have hfz26_2 := blk_frozen BK328.out 2
            have hfz26_3 := blk_frozen BK328.out 3
            have hfz26_4 := blk_frozen BK328.out 4
            have hfz26_5 := blk_frozen BK328.out 5
            have hfz26_6 := blk_frozen BK328.out 6
            have hfz26_7 := blk_frozen BK328.out 7
            have hfz26_8 := blk_frozen BK328.out 8
            go_wp2
            go_ret
            exact ⟨by first | rfl | (simp [errW_none, errW_some] <;> rfl) | (simp [*, errW_none, errW_some] <;> rfl), by repeat (first | (with_reducible first | exact HB.out | apply below_alloc | apply pw_below_drewN | apply below_drew1 | refine below_set ?_ GE328.out | refine below_set ?_ GE329.out) | exact HB.out)⟩
          · replace c24 := Bool.eq_false_iff.mpr c24
            subst c24
            have H1 : ((trans_turner_huge.f kj9 a0_0 a0_1 a0_2 a0_3 a0_4 a0_5 a0_6 a0_7 a0_8 a1_1).bind fun t330 => (some t330)) = some r := by rw [if_neg (show ¬ (false = true) by decide)] at H; exact H
            clear H
            have H := H1
            clear H1
            replace H := Option.bind_eq_some_iff.mp H
            obtain ⟨t330, A270, H⟩ := H
            replace H : (some t330) = some r := H
            have A27 := Aside0.mk A270
            clear A270
            obtain rfl := Option.some.inj H
            have hnb28 := NB328_329.out
            have hnc28 := NB329_328.out
            have hcz29_0 : wc.cell? ⟨gb328, 0, none⟩ = some (.int .i64 a0_0) := (blk_cell BK328.out 0).trans rfl
            have hcz29_1 : wc.cell? ⟨gb328, 1, none⟩ = some (.int .i64 a0_1) := (blk_cell BK328.out 1).trans rfl
            have hcz29_2 : wc.cell? ⟨gb328, 2, none⟩ = some (.int .i64 a0_2) := (blk_cell BK328.out 2).trans rfl
            have hcz29_3 : wc.cell? ⟨gb328, 3, none⟩ = some (.int .i64 a0_3) := (blk_cell BK328.out 3).trans rfl
            have hcz29_4 : wc.cell? ⟨gb328, 4, none⟩ = some (.int .u64 a0_4) := (blk_cell BK328.out 4).trans rfl
            have hcz29_5 : wc.cell? ⟨gb328, 5, none⟩ = some (.int .u64 a0_5) := (blk_cell BK328.out 5).trans rfl
            have hcz29_6 : wc.cell? ⟨gb328, 6, none⟩ = some (.int .u64 a0_6) := (blk_cell BK328.out 6).trans rfl
            have hcz29_7 : wc.cell? ⟨gb328, 7, none⟩ = some (.int .i64 a0_7) := (blk_cell BK328.out 7).trans rfl
            have hcz29_8 : wc.cell? ⟨gb328, 8, none⟩ = some (.int .i64 a0_8) := (blk_cell BK328.out 8).trans rfl
            have hfz29_0 := blk_frozen BK328.out 0
            have hfz29_1 := blk_frozen BK328.out 1
            have hfz29_2 := blk_frozen BK328.out 2
            have hfz29_3 := blk_frozen BK328.out 3
            have hfz29_4 := blk_frozen BK328.out 4
            have hfz29_5 := blk_frozen BK328.out 5
            have hfz29_6 := blk_frozen BK328.out 6
            have hfz29_7 := blk_frozen BK328.out 7
            have hfz29_8 := blk_frozen BK328.out 8
            have hcz30_0 : wc.cell? ⟨gb329, 0, none⟩ = some (.int .i64 a1_0) := (blk_cell BK329.out 0).trans rfl
            have hcz30_1 : wc.cell? ⟨gb329, 1, none⟩ = some (.bool a1_1) := (blk_cell BK329.out 1).trans rfl
            have hcz30_2 : wc.cell? ⟨gb329, 2, none⟩ = some (.int .u64 a1_2) := (blk_cell BK329.out 2).trans rfl
            have hcz30_3 : wc.cell? ⟨gb329, 3, none⟩ = some (.int .i64 a1_3) := (blk_cell BK329.out 3).trans rfl
            have hfz30_0 := blk_frozen BK329.out 0
            have hfz30_1 := blk_frozen BK329.out 1
            have hfz30_2 := blk_frozen BK329.out 2
            have hfz30_3 := blk_frozen BK329.out 3
            go_wp2_with (first | ((with_reducible refine gate_callee (f := 35) rfl ?_); refine goesL_ (some 38) rfl rfl Tryd.func35 (by kernel_rfl) rfl #[.agg #[.int .i64 a0_0, .int .i64 a0_1, .int .i64 a0_2, .int .i64 a0_3, .int .u64 a0_4, .int .u64 a0_5, .int .u64 a0_6, .int .i64 a0_7, .int .i64 a0_8], .bool a1_1] rfl (by (try simp only [List.map_toArray, List.map_cons, List.map_nil]); first | done | rfl | (simp only [List.length_drop, List.length_take]; rfl)) ?_; (with_reducible refine (trans_turner_huge.calls kj9 a0_0 a0_1 a0_2 a0_3 a0_4 a0_5 a0_6 a0_7 a0_8 a1_1 t330 _ ?side1 A27.out).mono ?_); (case side1 => exact Glob.below HG.out (by repeat (first | (with_reducible first | exact HB.out | apply below_alloc | apply pw_below_drewN | apply below_drew1 | refine below_set ?_ GE328.out | refine below_set ?_ GE329.out) | exact HB.out))); rintro e w31 ⟨rfl, hb⟩; refine ⟨_, rfl, ?_⟩; have n0_ := Aside0.mk (blk_below (g := gb328) (o := .cells #[.int .i64 a0_0, .int .i64 a0_1, .int .i64 a0_2, .int .i64 a0_3, .int .u64 a0_4, .int .u64 a0_5, .int .u64 a0_6, .int .i64 a0_7, .int .i64 a0_8] 54 (0, 0)) (by (with_reducible repeat (first | refine blk_drewN ?_ _ | refine blk_drew ?_ | refine blk_alloc ?_ _)); exact BK328.out) hb); have n1_ := Aside0.mk (blk_below (g := gb329) (o := .cells #[.int .i64 a1_0, .bool a1_1, .int .u64 a1_2, .int .i64 a1_3] 31 (0, 0)) (by (with_reducible repeat (first | refine blk_drewN ?_ _ | refine blk_drew ?_ | refine blk_alloc ?_ _)); exact BK329.out) hb); have n2_ := Aside0.mk (below_step (by repeat (first | (with_reducible first | exact HB.out | apply below_alloc | apply pw_below_drewN | apply below_drew1 | refine below_set ?_ GE328.out | refine below_set ?_ GE329.out) | exact HB.out)) hb); clear BK328; clear BK329; clear HB; have BK328 := n0_; have BK329 := n1_; have HB := n2_; clear n0_ n1_ n2_; (try clear hb); (try clear hb2); (try clear hk); (try clear hi)))
            go_ret
            exact ⟨by first | rfl | (simp [errW_none, errW_some] <;> rfl) | (simp [*, errW_none, errW_some] <;> rfl), by repeat (first | (with_reducible first | exact HB.out | apply below_alloc | apply pw_below_drewN | apply below_drew1 | refine below_set ?_ GE328.out | refine below_set ?_ GE329.out) | exact HB.out)⟩
    · rw [if_neg c9] at H
      have c9b0 : (a1_0 == 3) = false := beq_eq_false_iff_ne.mpr c9
      have c9b1 : (a1_0 != 3) = true := bne_iff_ne.mpr c9
      replace H := Option.bind_eq_some_iff.mp H
      obtain ⟨⟨t331, t332, t335, t336, t337⟩, A320, H⟩ := H
      replace H : ((round_Round.f k a0_7 a0_8 t331 t332 t335 t336).bind fun bt339 => (some bt339.1)) = some r := H
      have A32 := Aside0.mk A320
      clear A320
      replace H := Option.bind_eq_some_iff.mp H
      obtain ⟨⟨t339, t340⟩, A330, H⟩ := H
      replace H : (some t339) = some r := H
      have A33 := Aside0.mk A330
      clear A330
      obtain rfl := Option.some.inj H
      go_enter Tryd.func20, Tryd.ntmps20
      go_wp2_with (first | ((with_reducible refine gate_dst (N := 2) rfl ?_); refine box_event ?hg (N := 2) ?hd (cs := #[.int .i64 a0_0, .int .i64 a0_1, .int .i64 a0_2, .int .i64 a0_3, .int .u64 a0_4, .int .u64 a0_5, .int .u64 a0_6, .int .i64 a0_7, .int .i64 a0_8]) (t := 54) ?hr ?_; (case hd => rfl); (case hg => rfl); (case hr => first | (go_simp; done) | (go_simp; rfl)); intro gb328 hg w34 hbox hb; have n0_ := Aside0.mk (below_step (by repeat (first | (with_reducible first | exact HB.out | apply below_alloc | apply pw_below_drewN | apply below_drew1) | exact HB.out)) hb); have n1_ := Aside0.mk (hbox); have n2_ := Aside0.mk ((by rw [hg]; exact (below_size (by repeat (first | (with_reducible first | exact HB.out | apply below_alloc | apply pw_below_drewN | apply below_drew1) | exact HB.out))) : w.heap.size ≤ gb328)); have n3_ := Aside0.mk ((by rw [hg]; exact (below_size (by repeat (first | (with_reducible first | exact HB.out | apply below_alloc | apply pw_below_drewN | apply below_drew1) | exact HB.out))) : w.heap.size ≤ gb328)); clear HB; have HB := n0_; have BK328 := n1_; have GW328 := n2_; have GE328 := n3_; clear n0_ n1_ n2_ n3_; clear hb hbox hg) | ((with_reducible refine gate_dst (N := 3) rfl ?_); refine box_event ?hg (N := 3) ?hd (cs := #[.int .i64 a1_0, .bool a1_1, .int .u64 a1_2, .int .i64 a1_3]) (t := 31) ?hr ?_; (case hd => rfl); (case hg => rfl); (case hr => first | (go_simp; done) | (go_simp; rfl)); intro gb329 hg w35 hbox hb; have n0_ := Aside0.mk (blk_below (g := gb328) (o := .cells #[.int .i64 a0_0, .int .i64 a0_1, .int .i64 a0_2, .int .i64 a0_3, .int .u64 a0_4, .int .u64 a0_5, .int .u64 a0_6, .int .i64 a0_7, .int .i64 a0_8] 54 (0, 0)) (by (with_reducible repeat (first | refine blk_drewN ?_ _ | refine blk_drew ?_ | refine blk_alloc ?_ _)); exact BK328.out) hb); have n1_ := Aside0.mk (below_step (by repeat (first | (with_reducible first | exact HB.out | apply below_alloc | apply pw_below_drewN | apply below_drew1 | refine below_set ?_ GE328.out) | exact HB.out)) hb); have n2_ := Aside0.mk (hbox); have n3_ := Aside0.mk ((by rw [hg]; exact (below_size (by repeat (first | (with_reducible first | exact HB.out | apply below_alloc | apply pw_below_drewN | apply below_drew1 | refine below_set ?_ GE328.out) | exact HB.out))) : w.heap.size ≤ gb329)); have n4_ := Aside0.mk ((by rw [hg]; exact (below_size (by repeat (first | (with_reducible first | exact HB.out | apply below_alloc | apply pw_below_drewN | apply below_drew1 | refine below_set ?_ GE328.out) | exact HB.out))) : w.heap.size ≤ gb329)); have n5_ := Aside0.mk ((by rw [hg]; exact Nat.ne_of_lt (blk_lt (g := gb328) (o := .cells #[.int .i64 a0_0, .int .i64 a0_1, .int .i64 a0_2, .int .i64 a0_3, .int .u64 a0_4, .int .u64 a0_5, .int .u64 a0_6, .int .i64 a0_7, .int .i64 a0_8] 54 (0, 0)) (by (with_reducible repeat (first | refine blk_drewN ?_ _ | refine blk_drew ?_ | refine blk_alloc ?_ _)); exact BK328.out)) : gb328 ≠ gb329)); have n6_ := Aside0.mk ((by rw [hg]; exact Nat.ne_of_gt (blk_lt (g := gb328) (o := .cells #[.int .i64 a0_0, .int .i64 a0_1, .int .i64 a0_2, .int .i64 a0_3, .int .u64 a0_4, .int .u64 a0_5, .int .u64 a0_6, .int .i64 a0_7, .int .i64 a0_8] 54 (0, 0)) (by (with_reducible repeat (first | refine blk_drewN ?_ _ | refine blk_drew ?_ | refine blk_alloc ?_ _)); exact BK328.out)) : gb329 ≠ gb328)); clear BK328; clear HB; have BK328 := n0_; have HB := n1_; have BK329 := n2_; have GW329 := n3_; have GE329 := n4_; have NB328_329 := n5_; have NB329_328 := n6_; clear n0_ n1_ n2_ n3_ n4_ n5_ n6_; clear hb hbox hg; have hnb36 := NB329_328.out; have hnc36 := NB328_329.out; have hcz37_0 : w35.cell? ⟨gb329, 0, none⟩ = some (.int .i64 a1_0) := (blk_cell BK329.out 0).trans rfl; have hcz37_1 : w35.cell? ⟨gb329, 1, none⟩ = some (.bool a1_1) := (blk_cell BK329.out 1).trans rfl; have hcz37_2 : w35.cell? ⟨gb329, 2, none⟩ = some (.int .u64 a1_2) := (blk_cell BK329.out 2).trans rfl; have hcz37_3 : w35.cell? ⟨gb329, 3, none⟩ = some (.int .i64 a1_3) := (blk_cell BK329.out 3).trans rfl; have hfz37_0 := blk_frozen BK329.out 0; have hfz37_1 := blk_frozen BK329.out 1; have hfz37_2 := blk_frozen BK329.out 2; have hfz37_3 := blk_frozen BK329.out 3) | ((with_reducible refine gate_callee (f := 14) rfl ?_); refine goesL_ (some 41) rfl rfl Tryd.func14 (by kernel_rfl) rfl #[.agg #[.int .i64 a1_0, .bool a1_1, .int .u64 a1_2, .int .i64 a1_3]] rfl (by (try simp only [List.map_toArray, List.map_cons, List.map_nil]); first | done | rfl | (simp only [List.length_drop, List.length_take]; rfl)) ?_; (with_reducible refine (exact_Of.calls a1_0 a1_1 a1_2 a1_3 t331 t332 t335 t336 t337 _ A32.out).mono ?_); rintro e w38 ⟨v333, rfl, ho0, hb⟩; refine ⟨_, rfl, ?_⟩; have n0_ := Aside0.mk (Kd.V_lower (Kd.V_mono (ok' := fun k_ => k_ ≠ gb328 ∧ k_ ≠ gb329) ho0 (fun k_ hk_ => ⟨(Kd.freshB (g := gb328) (o := .cells #[.int .i64 a0_0, .int .i64 a0_1, .int .i64 a0_2, .int .i64 a0_3, .int .u64 a0_4, .int .u64 a0_5, .int .u64 a0_6, .int .i64 a0_7, .int .i64 a0_8] 54 (0, 0)) (by (with_reducible repeat (first | refine blk_drewN ?_ _ | refine blk_drew ?_ | refine blk_alloc ?_ _)); exact BK328.out) k_ hk_), (Kd.freshB (g := gb329) (o := .cells #[.int .i64 a1_0, .bool a1_1, .int .u64 a1_2, .int .i64 a1_3] 31 (0, 0)) (by (with_reducible repeat (first | refine blk_drewN ?_ _ | refine blk_drew ?_ | refine blk_alloc ?_ _)); exact BK329.out) k_ hk_)⟩)) (below_size (by repeat (first | (with_reducible first | exact HB.out | apply below_alloc | apply pw_below_drewN | apply below_drew1 | refine below_set ?_ GE328.out | refine below_set ?_ GE329.out) | exact HB.out)))); have n1_ := Aside0.mk (blk_below (g := gb328) (o := .cells #[.int .i64 a0_0, .int .i64 a0_1, .int .i64 a0_2, .int .i64 a0_3, .int .u64 a0_4, .int .u64 a0_5, .int .u64 a0_6, .int .i64 a0_7, .int .i64 a0_8] 54 (0, 0)) (by (with_reducible repeat (first | refine blk_drewN ?_ _ | refine blk_drew ?_ | refine blk_alloc ?_ _)); exact BK328.out) hb); have n2_ := Aside0.mk (blk_below (g := gb329) (o := .cells #[.int .i64 a1_0, .bool a1_1, .int .u64 a1_2, .int .i64 a1_3] 31 (0, 0)) (by (with_reducible repeat (first | refine blk_drewN ?_ _ | refine blk_drew ?_ | refine blk_alloc ?_ _)); exact BK329.out) hb); have n3_ := Aside0.mk (below_step (by repeat (first | (with_reducible first | exact HB.out | apply below_alloc | apply pw_below_drewN | apply below_drew1 | refine below_set ?_ GE328.out | refine below_set ?_ GE329.out) | exact HB.out)) hb); clear BK328; clear BK329; clear HB; have HO334 := n0_; have BK328 := n1_; have BK329 := n2_; have HB := n3_; clear n0_ n1_ n2_ n3_; (try clear hb); (try clear hb2); (try clear hk); (try clear hi); (try clear ho0)) | ((with_reducible refine gate_dst (N := 5) rfl ?_); refine box_event ?hg (N := 5) ?hd (cs := #[.bool false, .slice none 0 0, .int .i64 0, .int .i64 0]) (t := 37) ?hr ?_; (case hd => rfl); (case hg => rfl); (case hr => first | (go_simp; done) | (go_simp; rfl)); intro gb338 hg w39 hbox hb; have n0_ := Aside0.mk (Kd.V_below (Kd.V_elderB (by (with_reducible repeat (first | apply Kd.V_alloc | apply Kd.V_drewN | apply Kd.V_drew)); exact HO334.out) gb338 (Nat.le_of_eq hg.symm)) hb); have n1_ := Aside0.mk (blk_below (g := gb328) (o := .cells #[.int .i64 a0_0, .int .i64 a0_1, .int .i64 a0_2, .int .i64 a0_3, .int .u64 a0_4, .int .u64 a0_5, .int .u64 a0_6, .int .i64 a0_7, .int .i64 a0_8] 54 (0, 0)) (by (with_reducible repeat (first | refine blk_drewN ?_ _ | refine blk_drew ?_ | refine blk_alloc ?_ _)); exact BK328.out) hb); have n2_ := Aside0.mk (blk_below (g := gb329) (o := .cells #[.int .i64 a1_0, .bool a1_1, .int .u64 a1_2, .int .i64 a1_3] 31 (0, 0)) (by (with_reducible repeat (first | refine blk_drewN ?_ _ | refine blk_drew ?_ | refine blk_alloc ?_ _)); exact BK329.out) hb); have n3_ := Aside0.mk (below_step (by repeat (first | (with_reducible first | exact HB.out | apply below_alloc | apply pw_below_drewN | apply below_drew1 | refine below_set ?_ GE328.out | refine below_set ?_ GE329.out) | exact HB.out)) hb); have n4_ := Aside0.mk (hbox); have n5_ := Aside0.mk ((by rw [hg]; exact (below_size (by repeat (first | (with_reducible first | exact HB.out | apply below_alloc | apply pw_below_drewN | apply below_drew1 | refine below_set ?_ GE328.out | refine below_set ?_ GE329.out) | exact HB.out))) : w.heap.size ≤ gb338)); have n6_ := Aside0.mk ((by rw [hg]; exact (below_size (by repeat (first | (with_reducible first | exact HB.out | apply below_alloc | apply pw_below_drewN | apply below_drew1 | refine below_set ?_ GE328.out | refine below_set ?_ GE329.out) | exact HB.out))) : w.heap.size ≤ gb338)); have n7_ := Aside0.mk ((by rw [hg]; exact Nat.ne_of_lt (blk_lt (g := gb328) (o := .cells #[.int .i64 a0_0, .int .i64 a0_1, .int .i64 a0_2, .int .i64 a0_3, .int .u64 a0_4, .int .u64 a0_5, .int .u64 a0_6, .int .i64 a0_7, .int .i64 a0_8] 54 (0, 0)) (by (with_reducible repeat (first | refine blk_drewN ?_ _ | refine blk_drew ?_ | refine blk_alloc ?_ _)); exact BK328.out)) : gb328 ≠ gb338)); have n8_ := Aside0.mk ((by rw [hg]; exact Nat.ne_of_gt (blk_lt (g := gb328) (o := .cells #[.int .i64 a0_0, .int .i64 a0_1, .int .i64 a0_2, .int .i64 a0_3, .int .u64 a0_4, .int .u64 a0_5, .int .u64 a0_6, .int .i64 a0_7, .int .i64 a0_8] 54 (0, 0)) (by (with_reducible repeat (first | refine blk_drewN ?_ _ | refine blk_drew ?_ | refine blk_alloc ?_ _)); exact BK328.out)) : gb338 ≠ gb328)); have n9_ := Aside0.mk ((by rw [hg]; exact Nat.ne_of_lt (blk_lt (g := gb329) (o := .cells #[.int .i64 a1_0, .bool a1_1, .int .u64 a1_2, .int .i64 a1_3] 31 (0, 0)) (by (with_reducible repeat (first | refine blk_drewN ?_ _ | refine blk_drew ?_ | refine blk_alloc ?_ _)); exact BK329.out)) : gb329 ≠ gb338)); have n10_ := Aside0.mk ((by rw [hg]; exact Nat.ne_of_gt (blk_lt (g := gb329) (o := .cells #[.int .i64 a1_0, .bool a1_1, .int .u64 a1_2, .int .i64 a1_3] 31 (0, 0)) (by (with_reducible repeat (first | refine blk_drewN ?_ _ | refine blk_drew ?_ | refine blk_alloc ?_ _)); exact BK329.out)) : gb338 ≠ gb329)); clear HO334; clear BK328; clear BK329; clear HB; have HO334 := n0_; have BK328 := n1_; have BK329 := n2_; have HB := n3_; have BK338 := n4_; have GW338 := n5_; have GE338 := n6_; have NB328_338 := n7_; have NB338_328 := n8_; have NB329_338 := n9_; have NB338_329 := n10_; clear n0_ n1_ n2_ n3_ n4_ n5_ n6_ n7_ n8_ n9_ n10_; clear hb hbox hg; have hnb40 := NB338_328.out; have hnc40 := NB328_338.out; have hnb41 := NB338_329.out; have hnc41 := NB329_338.out; have hcz42_0 : w39.cell? ⟨gb338, 0, none⟩ = some (.bool false) := (blk_cell BK338.out 0).trans rfl; have hcz42_1 : w39.cell? ⟨gb338, 1, none⟩ = some (.slice none 0 0) := (blk_cell BK338.out 1).trans rfl; have hcz42_2 : w39.cell? ⟨gb338, 2, none⟩ = some (.int .i64 0) := (blk_cell BK338.out 2).trans rfl; have hcz42_3 : w39.cell? ⟨gb338, 3, none⟩ = some (.int .i64 0) := (blk_cell BK338.out 3).trans rfl; have hfz42_0 := blk_frozen BK338.out 0; have hfz42_1 := blk_frozen BK338.out 1; have hfz42_2 := blk_frozen BK338.out 2; have hfz42_3 := blk_frozen BK338.out 3; obtain ⟨Ao43, co43, eo43⟩ := Kd.V_slice HO334.out; subst eo43; have hcz44_0 : w39.cell? ⟨gb328, 0, none⟩ = some (.int .i64 a0_0) := (blk_cell BK328.out 0).trans rfl; have hcz44_1 : w39.cell? ⟨gb328, 1, none⟩ = some (.int .i64 a0_1) := (blk_cell BK328.out 1).trans rfl; have hcz44_2 : w39.cell? ⟨gb328, 2, none⟩ = some (.int .i64 a0_2) := (blk_cell BK328.out 2).trans rfl; have hcz44_3 : w39.cell? ⟨gb328, 3, none⟩ = some (.int .i64 a0_3) := (blk_cell BK328.out 3).trans rfl; have hcz44_4 : w39.cell? ⟨gb328, 4, none⟩ = some (.int .u64 a0_4) := (blk_cell BK328.out 4).trans rfl; have hcz44_5 : w39.cell? ⟨gb328, 5, none⟩ = some (.int .u64 a0_5) := (blk_cell BK328.out 5).trans rfl; have hcz44_6 : w39.cell? ⟨gb328, 6, none⟩ = some (.int .u64 a0_6) := (blk_cell BK328.out 6).trans rfl; have hcz44_7 : w39.cell? ⟨gb328, 7, none⟩ = some (.int .i64 a0_7) := (blk_cell BK328.out 7).trans rfl; have hcz44_8 : w39.cell? ⟨gb328, 8, none⟩ = some (.int .i64 a0_8) := (blk_cell BK328.out 8).trans rfl; have hfz44_0 := blk_frozen BK328.out 0; have hfz44_1 := blk_frozen BK328.out 1; have hfz44_2 := blk_frozen BK328.out 2; have hfz44_3 := blk_frozen BK328.out 3; have hfz44_4 := blk_frozen BK328.out 4; have hfz44_5 := blk_frozen BK328.out 5; have hfz44_6 := blk_frozen BK328.out 6; have hfz44_7 := blk_frozen BK328.out 7; have hfz44_8 := blk_frozen BK328.out 8) | ((with_reducible refine gate_callee (f := 15) rfl ?_); refine goesL_ (some 50) rfl rfl Tryd.func15 (by kernel_rfl) rfl #[.int .i64 a0_7, .int .i64 a0_8, .agg #[.bool t331, .slice Ao43 t332.length co43, .int .i64 t335, .int .i64 t336]] rfl (by (try simp only [List.map_toArray, List.map_cons, List.map_nil]); first | done | rfl | (simp only [List.length_drop, List.length_take]; rfl)) ?_; (with_reducible refine (round_Round.calls k a0_7 a0_8 t331 _ _ t332 t335 t336 t339 t340 _ ?side3 ?side1 ?side2 A33.out).mono ?_); (case side1 => refine (Kd.V_reads' (e := 22) (base := w.heap.size) (ok := fun k_ => ((k_ ≠ gb328 ∧ k_ ≠ gb329) ∧ k_ ≠ gb338)) (n := t332.length) (c := co43) ?_).2.2; exact (by (with_reducible repeat (first | apply Kd.V_alloc | apply Kd.V_drewN | apply Kd.V_drew)); exact (Kd.V_mono (Kd.V_far (p := ⟨gb338, 3, none⟩) (Kd.V_far (p := ⟨gb338, 2, none⟩) (Kd.V_far (p := ⟨gb338, 1, none⟩) (Kd.V_far (p := ⟨gb338, 0, none⟩) (Kd.V_mono HO334.out (fun k_ hk => (⟨hk, hk.2⟩ : _ ∧ k_ ≠ gb338))) (fun _ hk => hk.2) (.bool t331)) (fun _ hk => hk.2) (.slice Ao43 t332.length co43)) (fun _ hk => hk.2) (.int .i64 t335)) (fun _ hk => hk.2) (.int .i64 t336)) (fun _ h_ => h_.1)))); (case side2 => exact (Kd.V_reads' HO334.out).2.1); (case side3 => exact Glob.below HG.out (by repeat (first | (with_reducible first | exact HB.out | apply below_alloc | apply pw_below_drewN | apply below_drew1 | refine below_set ?_ GE328.out | refine below_set ?_ GE329.out | refine below_set ?_ GE338.out) | exact HB.out))); rintro e w45 ⟨rfl, hb⟩; refine ⟨_, rfl, ?_⟩; have n0_ := Aside0.mk (Kd.V_below (by (with_reducible repeat (first | apply Kd.V_alloc | apply Kd.V_drewN | apply Kd.V_drew)); exact (Kd.V_mono (Kd.V_far (p := ⟨gb338, 3, none⟩) (Kd.V_far (p := ⟨gb338, 2, none⟩) (Kd.V_far (p := ⟨gb338, 1, none⟩) (Kd.V_far (p := ⟨gb338, 0, none⟩) (Kd.V_mono HO334.out (fun k_ hk => (⟨hk, hk.2⟩ : _ ∧ k_ ≠ gb338))) (fun _ hk => hk.2) (.bool t331)) (fun _ hk => hk.2) (.slice Ao43 t332.length co43)) (fun _ hk => hk.2) (.int .i64 t335)) (fun _ hk => hk.2) (.int .i64 t336)) (fun _ h_ => h_.1))) hb); have n1_ := Aside0.mk (blk_below (g := gb328) (o := .cells #[.int .i64 a0_0, .int .i64 a0_1, .int .i64 a0_2, .int .i64 a0_3, .int .u64 a0_4, .int .u64 a0_5, .int .u64 a0_6, .int .i64 a0_7, .int .i64 a0_8] 54 (0, 0)) (by (with_reducible repeat (first | refine blk_drewN ?_ _ | refine blk_drew ?_ | refine blk_alloc ?_ _)); refine blk_far ?_ NB328_338.out _; (with_reducible repeat (first | refine blk_drewN ?_ _ | refine blk_drew ?_ | refine blk_alloc ?_ _)); refine blk_far ?_ NB328_338.out _; (with_reducible repeat (first | refine blk_drewN ?_ _ | refine blk_drew ?_ | refine blk_alloc ?_ _)); refine blk_far ?_ NB328_338.out _; (with_reducible repeat (first | refine blk_drewN ?_ _ | refine blk_drew ?_ | refine blk_alloc ?_ _)); refine blk_far ?_ NB328_338.out _; (with_reducible repeat (first | refine blk_drewN ?_ _ | refine blk_drew ?_ | refine blk_alloc ?_ _)); exact BK328.out) hb); have n2_ := Aside0.mk (blk_below (g := gb329) (o := .cells #[.int .i64 a1_0, .bool a1_1, .int .u64 a1_2, .int .i64 a1_3] 31 (0, 0)) (by (with_reducible repeat (first | refine blk_drewN ?_ _ | refine blk_drew ?_ | refine blk_alloc ?_ _)); refine blk_far ?_ NB329_338.out _; (with_reducible repeat (first | refine blk_drewN ?_ _ | refine blk_drew ?_ | refine blk_alloc ?_ _)); refine blk_far ?_ NB329_338.out _; (with_reducible repeat (first | refine blk_drewN ?_ _ | refine blk_drew ?_ | refine blk_alloc ?_ _)); refine blk_far ?_ NB329_338.out _; (with_reducible repeat (first | refine blk_drewN ?_ _ | refine blk_drew ?_ | refine blk_alloc ?_ _)); refine blk_far ?_ NB329_338.out _; (with_reducible repeat (first | refine blk_drewN ?_ _ | refine blk_drew ?_ | refine blk_alloc ?_ _)); exact BK329.out) hb); have n3_ := Aside0.mk (blk_below (g := gb338) (o := .cells #[.bool t331, .slice Ao43 t332.length co43, .int .i64 t335, .int .i64 t336] 37 (0, 0)) (by (with_reducible repeat (first | refine blk_drewN ?_ _ | refine blk_drew ?_ | refine blk_alloc ?_ _)); refine blk_put (cs := #[.bool t331, .slice Ao43 t332.length co43, .int .i64 t335, .int .i64 0]) ?_ 3 _ rfl; (with_reducible repeat (first | refine blk_drewN ?_ _ | refine blk_drew ?_ | refine blk_alloc ?_ _)); refine blk_put (cs := #[.bool t331, .slice Ao43 t332.length co43, .int .i64 0, .int .i64 0]) ?_ 2 _ rfl; (with_reducible repeat (first | refine blk_drewN ?_ _ | refine blk_drew ?_ | refine blk_alloc ?_ _)); refine blk_put (cs := #[.bool t331, .slice none 0 0, .int .i64 0, .int .i64 0]) ?_ 1 _ rfl; (with_reducible repeat (first | refine blk_drewN ?_ _ | refine blk_drew ?_ | refine blk_alloc ?_ _)); refine blk_put (cs := #[.bool false, .slice none 0 0, .int .i64 0, .int .i64 0]) ?_ 0 _ rfl; (with_reducible repeat (first | refine blk_drewN ?_ _ | refine blk_drew ?_ | refine blk_alloc ?_ _)); exact BK338.out) hb); have n4_ := Aside0.mk (below_step (by repeat (first | (with_reducible first | exact HB.out | apply below_alloc | apply pw_below_drewN | apply below_drew1 | refine below_set ?_ GE328.out | refine below_set ?_ GE329.out | refine below_set ?_ GE338.out) | exact HB.out)) hb); clear HO334; clear BK328; clear BK329; clear BK338; clear HB; have HO334 := n0_; have BK328 := n1_; have BK329 := n2_; have BK338 := n3_; have HB := n4_; clear n0_ n1_ n2_ n3_ n4_; (try clear hb); (try clear hb2); (try clear hk); (try clear hi)))
      go_ret
      exact ⟨by first | rfl | (simp [errW_none, errW_some] <;> rfl) | (simp [*, errW_none, errW_some] <;> rfl), by repeat (first | (with_reducible first | exact HB.out | apply below_alloc | apply pw_below_drewN | apply below_drew1 | refine below_set ?_ GE328.out | refine below_set ?_ GE329.out | refine below_set ?_ GE338.out) | exact HB.out)⟩

def trans_Turn.f (k : Nat) (a0 : Int) (a1 : Int) (a2 : Int) (a3 : Int) : Option (Int × Int) := (value_Decode.f a0 a3).bind fun bt341 => (if bt341.2.2.2.2 = 0 then ((forms_Of.f a1).bind fun bt347 => (if bt347.2.2.2.2.2.2.2 = 0 then (if a2 = 1 then ((trans_turner_turn.f k bt347.1 bt347.2.1 bt347.2.2.1 bt347.2.2.2.1 bt347.2.2.2.2.1 bt347.2.2.2.2.2.1 bt347.2.2.2.2.2.2.1 a1 a2 bt341.1 bt341.2.1 bt341.2.2.1 bt341.2.2.2.1).bind fun t356 => (some (t356, 0))) else (if a2 = 2 then ((trans_turner_turn.f k bt347.1 bt347.2.1 bt347.2.2.1 bt347.2.2.2.1 bt347.2.2.2.2.1 bt347.2.2.2.2.2.1 bt347.2.2.2.2.2.2.1 a1 a2 bt341.1 bt341.2.1 bt341.2.2.1 bt341.2.2.2.1).bind fun t357 => (some (t357, 0))) else (some (0, 1)))) else (some (0, bt347.2.2.2.2.2.2.2)))) else (some (0, bt341.2.2.2.2)))
theorem trans_Turn.mono : ∀ a0 a1 a2 a3 k, LeO (trans_Turn.f k a0 a1 a2 a3) (trans_Turn.f (k + 1) a0 a1 a2 a3) := by
  intro a0 a1 a2 a3 k
  unfold trans_Turn.f
  repeat' first
      | (with_reducible exact trans_turner_turn.mono _ _ _ _ _ _ _ _ _ _ _ _ _ _)
      | (with_reducible exact LeO.refl _)
      | (with_reducible exact LeO.none _)
      | (with_reducible refine LeO.ite ?_ ?_)
      | (with_reducible refine LeO.bind ?_ (fun _ => ?_))
      | exact trans_turner_turn.mono _ _ _ _ _ _ _ _ _ _ _ _ _ _
      | exact LeO.none _
      | refine LeO.ite ?_ ?_
      | refine LeO.bind ?_ (fun _ => ?_)
set_option maxHeartbeats 8000000 in
set_option maxRecDepth 100000 in
theorem trans_Turn.calls (k : Nat) (a0 : Int) (a1 : Int) (a2 : Int) (a3 : Int) (r1 : Int) (r2 : Int) (w : World) (hG : Glob w) (h : trans_Turn.f k a0 a1 a2 a3 = some (r1, r2)) :
    Calls Tryd.prog 12 #[.int .i64 a0, .int .i64 a1, .int .i64 a2, .int .u64 a3] w fun e w' => e = .returned (.tuple #[.int .u64 r1, .int .i64 r2]) ∧ Below w.heap.size w w' := by
  have hu31 := Tryd.underlying31
  have hu44 := Tryd.underlying44
  have hu54 := Tryd.underlying54
  have HG := Aside0.mk hG
  clear hG
  have HB := Aside0.mk (Below.refl w.heap.size w)
  have H : ((value_Decode.f a0 a3).bind fun bt341 => (if bt341.2.2.2.2 = 0 then ((forms_Of.f a1).bind fun bt347 => (if bt347.2.2.2.2.2.2.2 = 0 then (if a2 = 1 then ((trans_turner_turn.f k bt347.1 bt347.2.1 bt347.2.2.1 bt347.2.2.2.1 bt347.2.2.2.2.1 bt347.2.2.2.2.2.1 bt347.2.2.2.2.2.2.1 a1 a2 bt341.1 bt341.2.1 bt341.2.2.1 bt341.2.2.2.1).bind fun t356 => (some (t356, 0))) else (if a2 = 2 then ((trans_turner_turn.f k bt347.1 bt347.2.1 bt347.2.2.1 bt347.2.2.2.1 bt347.2.2.2.2.1 bt347.2.2.2.2.2.1 bt347.2.2.2.2.2.2.1 a1 a2 bt341.1 bt341.2.1 bt341.2.2.1 bt341.2.2.2.1).bind fun t357 => (some (t357, 0))) else (some (0, 1)))) else (some (0, bt347.2.2.2.2.2.2.2)))) else (some (0, bt341.2.2.2.2)))) = some (r1, r2) := h
  clear h
  replace H := Option.bind_eq_some_iff.mp H
  obtain ⟨⟨t341, t342, t343, t344, t345⟩, A50, H⟩ := H
  replace H : (if t345 = 0 then ((forms_Of.f a1).bind fun bt347 => (if bt347.2.2.2.2.2.2.2 = 0 then (if a2 = 1 then ((trans_turner_turn.f k bt347.1 bt347.2.1 bt347.2.2.1 bt347.2.2.2.1 bt347.2.2.2.2.1 bt347.2.2.2.2.2.1 bt347.2.2.2.2.2.2.1 a1 a2 t341 t342 t343 t344).bind fun t356 => (some (t356, 0))) else (if a2 = 2 then ((trans_turner_turn.f k bt347.1 bt347.2.1 bt347.2.2.1 bt347.2.2.2.1 bt347.2.2.2.2.1 bt347.2.2.2.2.2.1 bt347.2.2.2.2.2.2.1 a1 a2 t341 t342 t343 t344).bind fun t357 => (some (t357, 0))) else (some (0, 1)))) else (some (0, bt347.2.2.2.2.2.2.2)))) else (some (0, t345))) = some (r1, r2) := H
  have A5 := Aside0.mk A50
  clear A50
  by_cases c6 : t345 = 0
  · rw [if_pos c6] at H
    have c6b0 : (t345 == 0) = true := beq_iff_eq.mpr c6
    have c6b1 : (t345 != 0) = false := bne_eq_false_iff_eq.mpr c6
    clear c6
    replace H := Option.bind_eq_some_iff.mp H
    obtain ⟨⟨t347, t348, t349, t350, t351, t352, t353, t354⟩, A70, H⟩ := H
    replace H : (if t354 = 0 then (if a2 = 1 then ((trans_turner_turn.f k t347 t348 t349 t350 t351 t352 t353 a1 a2 t341 t342 t343 t344).bind fun t356 => (some (t356, 0))) else (if a2 = 2 then ((trans_turner_turn.f k t347 t348 t349 t350 t351 t352 t353 a1 a2 t341 t342 t343 t344).bind fun t357 => (some (t357, 0))) else (some (0, 1)))) else (some (0, t354))) = some (r1, r2) := H
    have A7 := Aside0.mk A70
    clear A70
    by_cases c8 : t354 = 0
    · rw [if_pos c8] at H
      have c8b0 : (t354 == 0) = true := beq_iff_eq.mpr c8
      have c8b1 : (t354 != 0) = false := bne_eq_false_iff_eq.mpr c8
      clear c8
      by_cases c9 : a2 = 1
      · rw [if_pos c9] at H
        have c9b0 : (a2 == 1) = true := beq_iff_eq.mpr c9
        have c9b1 : (a2 != 1) = false := bne_eq_false_iff_eq.mpr c9
        clear c9
        replace H := Option.bind_eq_some_iff.mp H
        obtain ⟨t356, A100, H⟩ := H
        replace H : (some (t356, 0)) = some (r1, r2) := H
        have A10 := Aside0.mk A100
        clear A100
        simp only [Option.some.injEq, Prod.mk.injEq] at H
        obtain ⟨rfl, rfl⟩ := H
        go_enter Tryd.func12, Tryd.ntmps12
        go_wp2_with (first | ((with_reducible refine gate_callee (f := 13) rfl ?_); refine goesL_ (some 16) rfl rfl Tryd.func13 (by kernel_rfl) rfl #[.int .i64 a0, .int .u64 a3] rfl (by (try simp only [List.map_toArray, List.map_cons, List.map_nil]); first | done | rfl | (simp only [List.length_drop, List.length_take]; rfl)) ?_; (with_reducible refine (value_Decode.calls a0 a3 t341 t342 t343 t344 t345 _ ?side1 A5.out).mono ?_); (case side1 => exact Glob.below HG.out (by repeat (first | (with_reducible first | exact HB.out | apply below_alloc | apply pw_below_drewN | apply below_drew1) | exact HB.out))); rintro e w11 ⟨rfl, hb⟩; refine ⟨_, rfl, ?_⟩; have n0_ := Aside0.mk (below_step (by repeat (first | (with_reducible first | exact HB.out | apply below_alloc | apply pw_below_drewN | apply below_drew1) | exact HB.out)) hb); clear HB; have HB := n0_; clear n0_; (try clear hb); (try clear hb2); (try clear hk); (try clear hi)) | ((with_reducible refine gate_dst (N := 10) rfl ?_); refine box_event ?hg (N := 10) ?hd (cs := #[.int .i64 0, .bool false, .int .u64 0, .int .i64 0]) (t := 31) ?hr ?_; (case hd => rfl); (case hg => rfl); (case hr => first | (go_simp; done) | (go_simp; rfl)); intro gb346 hg w12 hbox hb; have n0_ := Aside0.mk (below_step (by repeat (first | (with_reducible first | exact HB.out | apply below_alloc | apply pw_below_drewN | apply below_drew1) | exact HB.out)) hb); have n1_ := Aside0.mk (hbox); have n2_ := Aside0.mk ((by rw [hg]; exact (below_size (by repeat (first | (with_reducible first | exact HB.out | apply below_alloc | apply pw_below_drewN | apply below_drew1) | exact HB.out))) : w.heap.size ≤ gb346)); have n3_ := Aside0.mk ((by rw [hg]; exact (below_size (by repeat (first | (with_reducible first | exact HB.out | apply below_alloc | apply pw_below_drewN | apply below_drew1) | exact HB.out))) : w.heap.size ≤ gb346)); clear HB; have HB := n0_; have BK346 := n1_; have GW346 := n2_; have GE346 := n3_; clear n0_ n1_ n2_ n3_; clear hb hbox hg; have hcz13_0 : w12.cell? ⟨gb346, 0, none⟩ = some (.int .i64 0) := (blk_cell BK346.out 0).trans rfl; have hcz13_1 : w12.cell? ⟨gb346, 1, none⟩ = some (.bool false) := (blk_cell BK346.out 1).trans rfl; have hcz13_2 : w12.cell? ⟨gb346, 2, none⟩ = some (.int .u64 0) := (blk_cell BK346.out 2).trans rfl; have hcz13_3 : w12.cell? ⟨gb346, 3, none⟩ = some (.int .i64 0) := (blk_cell BK346.out 3).trans rfl; have hfz13_0 := blk_frozen BK346.out 0; have hfz13_1 := blk_frozen BK346.out 1; have hfz13_2 := blk_frozen BK346.out 2; have hfz13_3 := blk_frozen BK346.out 3) | ((with_reducible refine gate_callee (f := 16) rfl ?_); refine goesL_ (some 24) rfl rfl Tryd.func16 (by kernel_rfl) rfl #[.int .i64 a1] rfl (by (try simp only [List.map_toArray, List.map_cons, List.map_nil]); first | done | rfl | (simp only [List.length_drop, List.length_take]; rfl)) ?_; (with_reducible refine (forms_Of.calls a1 t347 t348 t349 t350 t351 t352 t353 t354 _ ?side1 A7.out).mono ?_); (case side1 => exact Glob.below HG.out (by repeat (first | (with_reducible first | exact HB.out | apply below_alloc | apply pw_below_drewN | apply below_drew1 | refine below_set ?_ GE346.out) | exact HB.out))); rintro e w14 ⟨rfl, hb⟩; refine ⟨_, rfl, ?_⟩; have n0_ := Aside0.mk (blk_below (g := gb346) (o := .cells #[.int .i64 t341, .bool t342, .int .u64 t343, .int .i64 t344] 31 (0, 0)) (by (with_reducible repeat (first | refine blk_drewN ?_ _ | refine blk_drew ?_ | refine blk_alloc ?_ _)); refine blk_put (cs := #[.int .i64 t341, .bool t342, .int .u64 t343, .int .i64 0]) ?_ 3 _ rfl; (with_reducible repeat (first | refine blk_drewN ?_ _ | refine blk_drew ?_ | refine blk_alloc ?_ _)); refine blk_put (cs := #[.int .i64 t341, .bool t342, .int .u64 0, .int .i64 0]) ?_ 2 _ rfl; (with_reducible repeat (first | refine blk_drewN ?_ _ | refine blk_drew ?_ | refine blk_alloc ?_ _)); refine blk_put (cs := #[.int .i64 t341, .bool false, .int .u64 0, .int .i64 0]) ?_ 1 _ rfl; (with_reducible repeat (first | refine blk_drewN ?_ _ | refine blk_drew ?_ | refine blk_alloc ?_ _)); refine blk_put (cs := #[.int .i64 0, .bool false, .int .u64 0, .int .i64 0]) ?_ 0 _ rfl; (with_reducible repeat (first | refine blk_drewN ?_ _ | refine blk_drew ?_ | refine blk_alloc ?_ _)); exact BK346.out) hb); have n1_ := Aside0.mk (below_step (by repeat (first | (with_reducible first | exact HB.out | apply below_alloc | apply pw_below_drewN | apply below_drew1 | refine below_set ?_ GE346.out) | exact HB.out)) hb); clear BK346; clear HB; have BK346 := n0_; have HB := n1_; clear n0_ n1_; (try clear hb); (try clear hb2); (try clear hk); (try clear hi)) | ((with_reducible refine gate_dst (N := 12) rfl ?_); refine box_event ?hg (N := 12) ?hd (cs := #[.int .i64 0, .int .i64 0, .int .i64 0, .int .i64 0, .int .u64 0, .int .u64 0, .int .u64 0]) (t := 44) ?hr ?_; (case hd => rfl); (case hg => rfl); (case hr => first | (go_simp; done) | (go_simp; rfl)); intro gb355 hg w15 hbox hb; have n0_ := Aside0.mk (blk_below (g := gb346) (o := .cells #[.int .i64 t341, .bool t342, .int .u64 t343, .int .i64 t344] 31 (0, 0)) (by (with_reducible repeat (first | refine blk_drewN ?_ _ | refine blk_drew ?_ | refine blk_alloc ?_ _)); exact BK346.out) hb); have n1_ := Aside0.mk (below_step (by repeat (first | (with_reducible first | exact HB.out | apply below_alloc | apply pw_below_drewN | apply below_drew1 | refine below_set ?_ GE346.out) | exact HB.out)) hb); have n2_ := Aside0.mk (hbox); have n3_ := Aside0.mk ((by rw [hg]; exact (below_size (by repeat (first | (with_reducible first | exact HB.out | apply below_alloc | apply pw_below_drewN | apply below_drew1 | refine below_set ?_ GE346.out) | exact HB.out))) : w.heap.size ≤ gb355)); have n4_ := Aside0.mk ((by rw [hg]; exact (below_size (by repeat (first | (with_reducible first | exact HB.out | apply below_alloc | apply pw_below_drewN | apply below_drew1 | refine below_set ?_ GE346.out) | exact HB.out))) : w.heap.size ≤ gb355)); have n5_ := Aside0.mk ((by rw [hg]; exact Nat.ne_of_lt (blk_lt (g := gb346) (o := .cells #[.int .i64 t341, .bool t342, .int .u64 t343, .int .i64 t344] 31 (0, 0)) (by (with_reducible repeat (first | refine blk_drewN ?_ _ | refine blk_drew ?_ | refine blk_alloc ?_ _)); exact BK346.out)) : gb346 ≠ gb355)); have n6_ := Aside0.mk ((by rw [hg]; exact Nat.ne_of_gt (blk_lt (g := gb346) (o := .cells #[.int .i64 t341, .bool t342, .int .u64 t343, .int .i64 t344] 31 (0, 0)) (by (with_reducible repeat (first | refine blk_drewN ?_ _ | refine blk_drew ?_ | refine blk_alloc ?_ _)); exact BK346.out)) : gb355 ≠ gb346)); clear BK346; clear HB; have BK346 := n0_; have HB := n1_; have BK355 := n2_; have GW355 := n3_; have GE355 := n4_; have NB346_355 := n5_; have NB355_346 := n6_; clear n0_ n1_ n2_ n3_ n4_ n5_ n6_; clear hb hbox hg; have hnb16 := NB355_346.out; have hnc16 := NB346_355.out; have hcz17_0 : w15.cell? ⟨gb355, 0, none⟩ = some (.int .i64 0) := (blk_cell BK355.out 0).trans rfl; have hcz17_1 : w15.cell? ⟨gb355, 1, none⟩ = some (.int .i64 0) := (blk_cell BK355.out 1).trans rfl; have hcz17_2 : w15.cell? ⟨gb355, 2, none⟩ = some (.int .i64 0) := (blk_cell BK355.out 2).trans rfl; have hcz17_3 : w15.cell? ⟨gb355, 3, none⟩ = some (.int .i64 0) := (blk_cell BK355.out 3).trans rfl; have hcz17_4 : w15.cell? ⟨gb355, 4, none⟩ = some (.int .u64 0) := (blk_cell BK355.out 4).trans rfl; have hcz17_5 : w15.cell? ⟨gb355, 5, none⟩ = some (.int .u64 0) := (blk_cell BK355.out 5).trans rfl; have hcz17_6 : w15.cell? ⟨gb355, 6, none⟩ = some (.int .u64 0) := (blk_cell BK355.out 6).trans rfl; have hfz17_0 := blk_frozen BK355.out 0; have hfz17_1 := blk_frozen BK355.out 1; have hfz17_2 := blk_frozen BK355.out 2; have hfz17_3 := blk_frozen BK355.out 3; have hfz17_4 := blk_frozen BK355.out 4; have hfz17_5 := blk_frozen BK355.out 5; have hfz17_6 := blk_frozen BK355.out 6; have hcz18_0 : w15.cell? ⟨gb346, 0, none⟩ = some (.int .i64 t341) := (blk_cell BK346.out 0).trans rfl; have hcz18_1 : w15.cell? ⟨gb346, 1, none⟩ = some (.bool t342) := (blk_cell BK346.out 1).trans rfl; have hcz18_2 : w15.cell? ⟨gb346, 2, none⟩ = some (.int .u64 t343) := (blk_cell BK346.out 2).trans rfl; have hcz18_3 : w15.cell? ⟨gb346, 3, none⟩ = some (.int .i64 t344) := (blk_cell BK346.out 3).trans rfl; have hfz18_0 := blk_frozen BK346.out 0; have hfz18_1 := blk_frozen BK346.out 1; have hfz18_2 := blk_frozen BK346.out 2; have hfz18_3 := blk_frozen BK346.out 3) | ((with_reducible refine gate_callee (f := 20) rfl ?_); refine goesL_ (some 43) rfl rfl Tryd.func20 (by kernel_rfl) rfl #[.agg #[.int .i64 t347, .int .i64 t348, .int .i64 t349, .int .i64 t350, .int .u64 t351, .int .u64 t352, .int .u64 t353, .int .i64 a1, .int .i64 a2], .agg #[.int .i64 t341, .bool t342, .int .u64 t343, .int .i64 t344]] rfl (by (try simp only [List.map_toArray, List.map_cons, List.map_nil]); first | done | rfl | (simp only [List.length_drop, List.length_take]; rfl)) ?_; (with_reducible refine (trans_turner_turn.calls k t347 t348 t349 t350 t351 t352 t353 a1 a2 t341 t342 t343 t344 t356 _ ?side1 A10.out).mono ?_); (case side1 => exact Glob.below HG.out (by repeat (first | (with_reducible first | exact HB.out | apply below_alloc | apply pw_below_drewN | apply below_drew1 | refine below_set ?_ GE346.out | refine below_set ?_ GE355.out) | exact HB.out))); rintro e w19 ⟨rfl, hb⟩; refine ⟨_, rfl, ?_⟩; have n0_ := Aside0.mk (blk_below (g := gb346) (o := .cells #[.int .i64 t341, .bool t342, .int .u64 t343, .int .i64 t344] 31 (0, 0)) (by (with_reducible repeat (first | refine blk_drewN ?_ _ | refine blk_drew ?_ | refine blk_alloc ?_ _)); refine blk_far ?_ NB346_355.out _; (with_reducible repeat (first | refine blk_drewN ?_ _ | refine blk_drew ?_ | refine blk_alloc ?_ _)); refine blk_far ?_ NB346_355.out _; (with_reducible repeat (first | refine blk_drewN ?_ _ | refine blk_drew ?_ | refine blk_alloc ?_ _)); refine blk_far ?_ NB346_355.out _; (with_reducible repeat (first | refine blk_drewN ?_ _ | refine blk_drew ?_ | refine blk_alloc ?_ _)); refine blk_far ?_ NB346_355.out _; (with_reducible repeat (first | refine blk_drewN ?_ _ | refine blk_drew ?_ | refine blk_alloc ?_ _)); refine blk_far ?_ NB346_355.out _; (with_reducible repeat (first | refine blk_drewN ?_ _ | refine blk_drew ?_ | refine blk_alloc ?_ _)); refine blk_far ?_ NB346_355.out _; (with_reducible repeat (first | refine blk_drewN ?_ _ | refine blk_drew ?_ | refine blk_alloc ?_ _)); refine blk_far ?_ NB346_355.out _; (with_reducible repeat (first | refine blk_drewN ?_ _ | refine blk_drew ?_ | refine blk_alloc ?_ _)); exact BK346.out) hb); have n1_ := Aside0.mk (blk_below (g := gb355) (o := .cells #[.int .i64 t347, .int .i64 t348, .int .i64 t349, .int .i64 t350, .int .u64 t351, .int .u64 t352, .int .u64 t353] 44 (0, 0)) (by (with_reducible repeat (first | refine blk_drewN ?_ _ | refine blk_drew ?_ | refine blk_alloc ?_ _)); refine blk_put (cs := #[.int .i64 t347, .int .i64 t348, .int .i64 t349, .int .i64 t350, .int .u64 t351, .int .u64 t352, .int .u64 0]) ?_ 6 _ rfl; (with_reducible repeat (first | refine blk_drewN ?_ _ | refine blk_drew ?_ | refine blk_alloc ?_ _)); refine blk_put (cs := #[.int .i64 t347, .int .i64 t348, .int .i64 t349, .int .i64 t350, .int .u64 t351, .int .u64 0, .int .u64 0]) ?_ 5 _ rfl; (with_reducible repeat (first | refine blk_drewN ?_ _ | refine blk_drew ?_ | refine blk_alloc ?_ _)); refine blk_put (cs := #[.int .i64 t347, .int .i64 t348, .int .i64 t349, .int .i64 t350, .int .u64 0, .int .u64 0, .int .u64 0]) ?_ 4 _ rfl; (with_reducible repeat (first | refine blk_drewN ?_ _ | refine blk_drew ?_ | refine blk_alloc ?_ _)); refine blk_put (cs := #[.int .i64 t347, .int .i64 t348, .int .i64 t349, .int .i64 0, .int .u64 0, .int .u64 0, .int .u64 0]) ?_ 3 _ rfl; (with_reducible repeat (first | refine blk_drewN ?_ _ | refine blk_drew ?_ | refine blk_alloc ?_ _)); refine blk_put (cs := #[.int .i64 t347, .int .i64 t348, .int .i64 0, .int .i64 0, .int .u64 0, .int .u64 0, .int .u64 0]) ?_ 2 _ rfl; (with_reducible repeat (first | refine blk_drewN ?_ _ | refine blk_drew ?_ | refine blk_alloc ?_ _)); refine blk_put (cs := #[.int .i64 t347, .int .i64 0, .int .i64 0, .int .i64 0, .int .u64 0, .int .u64 0, .int .u64 0]) ?_ 1 _ rfl; (with_reducible repeat (first | refine blk_drewN ?_ _ | refine blk_drew ?_ | refine blk_alloc ?_ _)); refine blk_put (cs := #[.int .i64 0, .int .i64 0, .int .i64 0, .int .i64 0, .int .u64 0, .int .u64 0, .int .u64 0]) ?_ 0 _ rfl; (with_reducible repeat (first | refine blk_drewN ?_ _ | refine blk_drew ?_ | refine blk_alloc ?_ _)); exact BK355.out) hb); have n2_ := Aside0.mk (below_step (by repeat (first | (with_reducible first | exact HB.out | apply below_alloc | apply pw_below_drewN | apply below_drew1 | refine below_set ?_ GE346.out | refine below_set ?_ GE355.out) | exact HB.out)) hb); clear BK346; clear BK355; clear HB; have BK346 := n0_; have BK355 := n1_; have HB := n2_; clear n0_ n1_ n2_; (try clear hb); (try clear hb2); (try clear hk); (try clear hi)))
        go_ret2
        exact ⟨by first | rfl | (simp [errW_none, errW_some] <;> rfl) | (simp [*, errW_none, errW_some] <;> rfl), by repeat (first | (with_reducible first | exact HB.out | apply below_alloc | apply pw_below_drewN | apply below_drew1 | refine below_set ?_ GE346.out | refine below_set ?_ GE355.out) | exact HB.out)⟩
      · rw [if_neg c9] at H
        have c9b0 : (a2 == 1) = false := beq_eq_false_iff_ne.mpr c9
        have c9b1 : (a2 != 1) = true := bne_iff_ne.mpr c9
        by_cases c20 : a2 = 2
        · rw [if_pos c20] at H
          have c20b0 : (a2 == 2) = true := beq_iff_eq.mpr c20
          have c20b1 : (a2 != 2) = false := bne_eq_false_iff_eq.mpr c20
          clear c20
          replace H := Option.bind_eq_some_iff.mp H
          obtain ⟨t357, A210, H⟩ := H
          replace H : (some (t357, 0)) = some (r1, r2) := H
          have A21 := Aside0.mk A210
          clear A210
          simp only [Option.some.injEq, Prod.mk.injEq] at H
          obtain ⟨rfl, rfl⟩ := H
          go_enter Tryd.func12, Tryd.ntmps12
          go_wp2_with (first | ((with_reducible refine gate_callee (f := 13) rfl ?_); refine goesL_ (some 16) rfl rfl Tryd.func13 (by kernel_rfl) rfl #[.int .i64 a0, .int .u64 a3] rfl (by (try simp only [List.map_toArray, List.map_cons, List.map_nil]); first | done | rfl | (simp only [List.length_drop, List.length_take]; rfl)) ?_; (with_reducible refine (value_Decode.calls a0 a3 t341 t342 t343 t344 t345 _ ?side1 A5.out).mono ?_); (case side1 => exact Glob.below HG.out (by repeat (first | (with_reducible first | exact HB.out | apply below_alloc | apply pw_below_drewN | apply below_drew1) | exact HB.out))); rintro e w22 ⟨rfl, hb⟩; refine ⟨_, rfl, ?_⟩; have n0_ := Aside0.mk (below_step (by repeat (first | (with_reducible first | exact HB.out | apply below_alloc | apply pw_below_drewN | apply below_drew1) | exact HB.out)) hb); clear HB; have HB := n0_; clear n0_; (try clear hb); (try clear hb2); (try clear hk); (try clear hi)) | ((with_reducible refine gate_dst (N := 10) rfl ?_); refine box_event ?hg (N := 10) ?hd (cs := #[.int .i64 0, .bool false, .int .u64 0, .int .i64 0]) (t := 31) ?hr ?_; (case hd => rfl); (case hg => rfl); (case hr => first | (go_simp; done) | (go_simp; rfl)); intro gb346 hg w23 hbox hb; have n0_ := Aside0.mk (below_step (by repeat (first | (with_reducible first | exact HB.out | apply below_alloc | apply pw_below_drewN | apply below_drew1) | exact HB.out)) hb); have n1_ := Aside0.mk (hbox); have n2_ := Aside0.mk ((by rw [hg]; exact (below_size (by repeat (first | (with_reducible first | exact HB.out | apply below_alloc | apply pw_below_drewN | apply below_drew1) | exact HB.out))) : w.heap.size ≤ gb346)); have n3_ := Aside0.mk ((by rw [hg]; exact (below_size (by repeat (first | (with_reducible first | exact HB.out | apply below_alloc | apply pw_below_drewN | apply below_drew1) | exact HB.out))) : w.heap.size ≤ gb346)); clear HB; have HB := n0_; have BK346 := n1_; have GW346 := n2_; have GE346 := n3_; clear n0_ n1_ n2_ n3_; clear hb hbox hg; have hcz24_0 : w23.cell? ⟨gb346, 0, none⟩ = some (.int .i64 0) := (blk_cell BK346.out 0).trans rfl; have hcz24_1 : w23.cell? ⟨gb346, 1, none⟩ = some (.bool false) := (blk_cell BK346.out 1).trans rfl; have hcz24_2 : w23.cell? ⟨gb346, 2, none⟩ = some (.int .u64 0) := (blk_cell BK346.out 2).trans rfl; have hcz24_3 : w23.cell? ⟨gb346, 3, none⟩ = some (.int .i64 0) := (blk_cell BK346.out 3).trans rfl; have hfz24_0 := blk_frozen BK346.out 0; have hfz24_1 := blk_frozen BK346.out 1; have hfz24_2 := blk_frozen BK346.out 2; have hfz24_3 := blk_frozen BK346.out 3) | ((with_reducible refine gate_callee (f := 16) rfl ?_); refine goesL_ (some 24) rfl rfl Tryd.func16 (by kernel_rfl) rfl #[.int .i64 a1] rfl (by (try simp only [List.map_toArray, List.map_cons, List.map_nil]); first | done | rfl | (simp only [List.length_drop, List.length_take]; rfl)) ?_; (with_reducible refine (forms_Of.calls a1 t347 t348 t349 t350 t351 t352 t353 t354 _ ?side1 A7.out).mono ?_); (case side1 => exact Glob.below HG.out (by repeat (first | (with_reducible first | exact HB.out | apply below_alloc | apply pw_below_drewN | apply below_drew1 | refine below_set ?_ GE346.out) | exact HB.out))); rintro e w25 ⟨rfl, hb⟩; refine ⟨_, rfl, ?_⟩; have n0_ := Aside0.mk (blk_below (g := gb346) (o := .cells #[.int .i64 t341, .bool t342, .int .u64 t343, .int .i64 t344] 31 (0, 0)) (by (with_reducible repeat (first | refine blk_drewN ?_ _ | refine blk_drew ?_ | refine blk_alloc ?_ _)); refine blk_put (cs := #[.int .i64 t341, .bool t342, .int .u64 t343, .int .i64 0]) ?_ 3 _ rfl; (with_reducible repeat (first | refine blk_drewN ?_ _ | refine blk_drew ?_ | refine blk_alloc ?_ _)); refine blk_put (cs := #[.int .i64 t341, .bool t342, .int .u64 0, .int .i64 0]) ?_ 2 _ rfl; (with_reducible repeat (first | refine blk_drewN ?_ _ | refine blk_drew ?_ | refine blk_alloc ?_ _)); refine blk_put (cs := #[.int .i64 t341, .bool false, .int .u64 0, .int .i64 0]) ?_ 1 _ rfl; (with_reducible repeat (first | refine blk_drewN ?_ _ | refine blk_drew ?_ | refine blk_alloc ?_ _)); refine blk_put (cs := #[.int .i64 0, .bool false, .int .u64 0, .int .i64 0]) ?_ 0 _ rfl; (with_reducible repeat (first | refine blk_drewN ?_ _ | refine blk_drew ?_ | refine blk_alloc ?_ _)); exact BK346.out) hb); have n1_ := Aside0.mk (below_step (by repeat (first | (with_reducible first | exact HB.out | apply below_alloc | apply pw_below_drewN | apply below_drew1 | refine below_set ?_ GE346.out) | exact HB.out)) hb); clear BK346; clear HB; have BK346 := n0_; have HB := n1_; clear n0_ n1_; (try clear hb); (try clear hb2); (try clear hk); (try clear hi)) | ((with_reducible refine gate_dst (N := 12) rfl ?_); refine box_event ?hg (N := 12) ?hd (cs := #[.int .i64 0, .int .i64 0, .int .i64 0, .int .i64 0, .int .u64 0, .int .u64 0, .int .u64 0]) (t := 44) ?hr ?_; (case hd => rfl); (case hg => rfl); (case hr => first | (go_simp; done) | (go_simp; rfl)); intro gb355 hg w26 hbox hb; have n0_ := Aside0.mk (blk_below (g := gb346) (o := .cells #[.int .i64 t341, .bool t342, .int .u64 t343, .int .i64 t344] 31 (0, 0)) (by (with_reducible repeat (first | refine blk_drewN ?_ _ | refine blk_drew ?_ | refine blk_alloc ?_ _)); exact BK346.out) hb); have n1_ := Aside0.mk (below_step (by repeat (first | (with_reducible first | exact HB.out | apply below_alloc | apply pw_below_drewN | apply below_drew1 | refine below_set ?_ GE346.out) | exact HB.out)) hb); have n2_ := Aside0.mk (hbox); have n3_ := Aside0.mk ((by rw [hg]; exact (below_size (by repeat (first | (with_reducible first | exact HB.out | apply below_alloc | apply pw_below_drewN | apply below_drew1 | refine below_set ?_ GE346.out) | exact HB.out))) : w.heap.size ≤ gb355)); have n4_ := Aside0.mk ((by rw [hg]; exact (below_size (by repeat (first | (with_reducible first | exact HB.out | apply below_alloc | apply pw_below_drewN | apply below_drew1 | refine below_set ?_ GE346.out) | exact HB.out))) : w.heap.size ≤ gb355)); have n5_ := Aside0.mk ((by rw [hg]; exact Nat.ne_of_lt (blk_lt (g := gb346) (o := .cells #[.int .i64 t341, .bool t342, .int .u64 t343, .int .i64 t344] 31 (0, 0)) (by (with_reducible repeat (first | refine blk_drewN ?_ _ | refine blk_drew ?_ | refine blk_alloc ?_ _)); exact BK346.out)) : gb346 ≠ gb355)); have n6_ := Aside0.mk ((by rw [hg]; exact Nat.ne_of_gt (blk_lt (g := gb346) (o := .cells #[.int .i64 t341, .bool t342, .int .u64 t343, .int .i64 t344] 31 (0, 0)) (by (with_reducible repeat (first | refine blk_drewN ?_ _ | refine blk_drew ?_ | refine blk_alloc ?_ _)); exact BK346.out)) : gb355 ≠ gb346)); clear BK346; clear HB; have BK346 := n0_; have HB := n1_; have BK355 := n2_; have GW355 := n3_; have GE355 := n4_; have NB346_355 := n5_; have NB355_346 := n6_; clear n0_ n1_ n2_ n3_ n4_ n5_ n6_; clear hb hbox hg; have hnb27 := NB355_346.out; have hnc27 := NB346_355.out; have hcz28_0 : w26.cell? ⟨gb355, 0, none⟩ = some (.int .i64 0) := (blk_cell BK355.out 0).trans rfl; have hcz28_1 : w26.cell? ⟨gb355, 1, none⟩ = some (.int .i64 0) := (blk_cell BK355.out 1).trans rfl; have hcz28_2 : w26.cell? ⟨gb355, 2, none⟩ = some (.int .i64 0) := (blk_cell BK355.out 2).trans rfl; have hcz28_3 : w26.cell? ⟨gb355, 3, none⟩ = some (.int .i64 0) := (blk_cell BK355.out 3).trans rfl; have hcz28_4 : w26.cell? ⟨gb355, 4, none⟩ = some (.int .u64 0) := (blk_cell BK355.out 4).trans rfl; have hcz28_5 : w26.cell? ⟨gb355, 5, none⟩ = some (.int .u64 0) := (blk_cell BK355.out 5).trans rfl; have hcz28_6 : w26.cell? ⟨gb355, 6, none⟩ = some (.int .u64 0) := (blk_cell BK355.out 6).trans rfl; have hfz28_0 := blk_frozen BK355.out 0; have hfz28_1 := blk_frozen BK355.out 1; have hfz28_2 := blk_frozen BK355.out 2; have hfz28_3 := blk_frozen BK355.out 3; have hfz28_4 := blk_frozen BK355.out 4; have hfz28_5 := blk_frozen BK355.out 5; have hfz28_6 := blk_frozen BK355.out 6; have hcz29_0 : w26.cell? ⟨gb346, 0, none⟩ = some (.int .i64 t341) := (blk_cell BK346.out 0).trans rfl; have hcz29_1 : w26.cell? ⟨gb346, 1, none⟩ = some (.bool t342) := (blk_cell BK346.out 1).trans rfl; have hcz29_2 : w26.cell? ⟨gb346, 2, none⟩ = some (.int .u64 t343) := (blk_cell BK346.out 2).trans rfl; have hcz29_3 : w26.cell? ⟨gb346, 3, none⟩ = some (.int .i64 t344) := (blk_cell BK346.out 3).trans rfl; have hfz29_0 := blk_frozen BK346.out 0; have hfz29_1 := blk_frozen BK346.out 1; have hfz29_2 := blk_frozen BK346.out 2; have hfz29_3 := blk_frozen BK346.out 3) | ((with_reducible refine gate_callee (f := 20) rfl ?_); refine goesL_ (some 43) rfl rfl Tryd.func20 (by kernel_rfl) rfl #[.agg #[.int .i64 t347, .int .i64 t348, .int .i64 t349, .int .i64 t350, .int .u64 t351, .int .u64 t352, .int .u64 t353, .int .i64 a1, .int .i64 a2], .agg #[.int .i64 t341, .bool t342, .int .u64 t343, .int .i64 t344]] rfl (by (try simp only [List.map_toArray, List.map_cons, List.map_nil]); first | done | rfl | (simp only [List.length_drop, List.length_take]; rfl)) ?_; (with_reducible refine (trans_turner_turn.calls k t347 t348 t349 t350 t351 t352 t353 a1 a2 t341 t342 t343 t344 t357 _ ?side1 A21.out).mono ?_); (case side1 => exact Glob.below HG.out (by repeat (first | (with_reducible first | exact HB.out | apply below_alloc | apply pw_below_drewN | apply below_drew1 | refine below_set ?_ GE346.out | refine below_set ?_ GE355.out) | exact HB.out))); rintro e w30 ⟨rfl, hb⟩; refine ⟨_, rfl, ?_⟩; have n0_ := Aside0.mk (blk_below (g := gb346) (o := .cells #[.int .i64 t341, .bool t342, .int .u64 t343, .int .i64 t344] 31 (0, 0)) (by (with_reducible repeat (first | refine blk_drewN ?_ _ | refine blk_drew ?_ | refine blk_alloc ?_ _)); refine blk_far ?_ NB346_355.out _; (with_reducible repeat (first | refine blk_drewN ?_ _ | refine blk_drew ?_ | refine blk_alloc ?_ _)); refine blk_far ?_ NB346_355.out _; (with_reducible repeat (first | refine blk_drewN ?_ _ | refine blk_drew ?_ | refine blk_alloc ?_ _)); refine blk_far ?_ NB346_355.out _; (with_reducible repeat (first | refine blk_drewN ?_ _ | refine blk_drew ?_ | refine blk_alloc ?_ _)); refine blk_far ?_ NB346_355.out _; (with_reducible repeat (first | refine blk_drewN ?_ _ | refine blk_drew ?_ | refine blk_alloc ?_ _)); refine blk_far ?_ NB346_355.out _; (with_reducible repeat (first | refine blk_drewN ?_ _ | refine blk_drew ?_ | refine blk_alloc ?_ _)); refine blk_far ?_ NB346_355.out _; (with_reducible repeat (first | refine blk_drewN ?_ _ | refine blk_drew ?_ | refine blk_alloc ?_ _)); refine blk_far ?_ NB346_355.out _; (with_reducible repeat (first | refine blk_drewN ?_ _ | refine blk_drew ?_ | refine blk_alloc ?_ _)); exact BK346.out) hb); have n1_ := Aside0.mk (blk_below (g := gb355) (o := .cells #[.int .i64 t347, .int .i64 t348, .int .i64 t349, .int .i64 t350, .int .u64 t351, .int .u64 t352, .int .u64 t353] 44 (0, 0)) (by (with_reducible repeat (first | refine blk_drewN ?_ _ | refine blk_drew ?_ | refine blk_alloc ?_ _)); refine blk_put (cs := #[.int .i64 t347, .int .i64 t348, .int .i64 t349, .int .i64 t350, .int .u64 t351, .int .u64 t352, .int .u64 0]) ?_ 6 _ rfl; (with_reducible repeat (first | refine blk_drewN ?_ _ | refine blk_drew ?_ | refine blk_alloc ?_ _)); refine blk_put (cs := #[.int .i64 t347, .int .i64 t348, .int .i64 t349, .int .i64 t350, .int .u64 t351, .int .u64 0, .int .u64 0]) ?_ 5 _ rfl; (with_reducible repeat (first | refine blk_drewN ?_ _ | refine blk_drew ?_ | refine blk_alloc ?_ _)); refine blk_put (cs := #[.int .i64 t347, .int .i64 t348, .int .i64 t349, .int .i64 t350, .int .u64 0, .int .u64 0, .int .u64 0]) ?_ 4 _ rfl; (with_reducible repeat (first | refine blk_drewN ?_ _ | refine blk_drew ?_ | refine blk_alloc ?_ _)); refine blk_put (cs := #[.int .i64 t347, .int .i64 t348, .int .i64 t349, .int .i64 0, .int .u64 0, .int .u64 0, .int .u64 0]) ?_ 3 _ rfl; (with_reducible repeat (first | refine blk_drewN ?_ _ | refine blk_drew ?_ | refine blk_alloc ?_ _)); refine blk_put (cs := #[.int .i64 t347, .int .i64 t348, .int .i64 0, .int .i64 0, .int .u64 0, .int .u64 0, .int .u64 0]) ?_ 2 _ rfl; (with_reducible repeat (first | refine blk_drewN ?_ _ | refine blk_drew ?_ | refine blk_alloc ?_ _)); refine blk_put (cs := #[.int .i64 t347, .int .i64 0, .int .i64 0, .int .i64 0, .int .u64 0, .int .u64 0, .int .u64 0]) ?_ 1 _ rfl; (with_reducible repeat (first | refine blk_drewN ?_ _ | refine blk_drew ?_ | refine blk_alloc ?_ _)); refine blk_put (cs := #[.int .i64 0, .int .i64 0, .int .i64 0, .int .i64 0, .int .u64 0, .int .u64 0, .int .u64 0]) ?_ 0 _ rfl; (with_reducible repeat (first | refine blk_drewN ?_ _ | refine blk_drew ?_ | refine blk_alloc ?_ _)); exact BK355.out) hb); have n2_ := Aside0.mk (below_step (by repeat (first | (with_reducible first | exact HB.out | apply below_alloc | apply pw_below_drewN | apply below_drew1 | refine below_set ?_ GE346.out | refine below_set ?_ GE355.out) | exact HB.out)) hb); clear BK346; clear BK355; clear HB; have BK346 := n0_; have BK355 := n1_; have HB := n2_; clear n0_ n1_ n2_; (try clear hb); (try clear hb2); (try clear hk); (try clear hi)))
          go_ret2
          exact ⟨by first | rfl | (simp [errW_none, errW_some] <;> rfl) | (simp [*, errW_none, errW_some] <;> rfl), by repeat (first | (with_reducible first | exact HB.out | apply below_alloc | apply pw_below_drewN | apply below_drew1 | refine below_set ?_ GE346.out | refine below_set ?_ GE355.out) | exact HB.out)⟩
        · rw [if_neg c20] at H
          have c20b0 : (a2 == 2) = false := beq_eq_false_iff_ne.mpr c20
          have c20b1 : (a2 != 2) = true := bne_iff_ne.mpr c20
          simp only [Option.some.injEq, Prod.mk.injEq] at H
          obtain ⟨rfl, rfl⟩ := H
          go_enter Tryd.func12, Tryd.ntmps12
          go_wp2_with (first | ((with_reducible refine gate_callee (f := 13) rfl ?_); refine goesL_ (some 16) rfl rfl Tryd.func13 (by kernel_rfl) rfl #[.int .i64 a0, .int .u64 a3] rfl (by (try simp only [List.map_toArray, List.map_cons, List.map_nil]); first | done | rfl | (simp only [List.length_drop, List.length_take]; rfl)) ?_; (with_reducible refine (value_Decode.calls a0 a3 t341 t342 t343 t344 t345 _ ?side1 A5.out).mono ?_); (case side1 => exact Glob.below HG.out (by repeat (first | (with_reducible first | exact HB.out | apply below_alloc | apply pw_below_drewN | apply below_drew1) | exact HB.out))); rintro e w31 ⟨rfl, hb⟩; refine ⟨_, rfl, ?_⟩; have n0_ := Aside0.mk (below_step (by repeat (first | (with_reducible first | exact HB.out | apply below_alloc | apply pw_below_drewN | apply below_drew1) | exact HB.out)) hb); clear HB; have HB := n0_; clear n0_; (try clear hb); (try clear hb2); (try clear hk); (try clear hi)) | ((with_reducible refine gate_dst (N := 10) rfl ?_); refine box_event ?hg (N := 10) ?hd (cs := #[.int .i64 0, .bool false, .int .u64 0, .int .i64 0]) (t := 31) ?hr ?_; (case hd => rfl); (case hg => rfl); (case hr => first | (go_simp; done) | (go_simp; rfl)); intro gb346 hg w32 hbox hb; have n0_ := Aside0.mk (below_step (by repeat (first | (with_reducible first | exact HB.out | apply below_alloc | apply pw_below_drewN | apply below_drew1) | exact HB.out)) hb); have n1_ := Aside0.mk (hbox); have n2_ := Aside0.mk ((by rw [hg]; exact (below_size (by repeat (first | (with_reducible first | exact HB.out | apply below_alloc | apply pw_below_drewN | apply below_drew1) | exact HB.out))) : w.heap.size ≤ gb346)); have n3_ := Aside0.mk ((by rw [hg]; exact (below_size (by repeat (first | (with_reducible first | exact HB.out | apply below_alloc | apply pw_below_drewN | apply below_drew1) | exact HB.out))) : w.heap.size ≤ gb346)); clear HB; have HB := n0_; have BK346 := n1_; have GW346 := n2_; have GE346 := n3_; clear n0_ n1_ n2_ n3_; clear hb hbox hg; have hcz33_0 : w32.cell? ⟨gb346, 0, none⟩ = some (.int .i64 0) := (blk_cell BK346.out 0).trans rfl; have hcz33_1 : w32.cell? ⟨gb346, 1, none⟩ = some (.bool false) := (blk_cell BK346.out 1).trans rfl; have hcz33_2 : w32.cell? ⟨gb346, 2, none⟩ = some (.int .u64 0) := (blk_cell BK346.out 2).trans rfl; have hcz33_3 : w32.cell? ⟨gb346, 3, none⟩ = some (.int .i64 0) := (blk_cell BK346.out 3).trans rfl; have hfz33_0 := blk_frozen BK346.out 0; have hfz33_1 := blk_frozen BK346.out 1; have hfz33_2 := blk_frozen BK346.out 2; have hfz33_3 := blk_frozen BK346.out 3) | ((with_reducible refine gate_callee (f := 16) rfl ?_); refine goesL_ (some 24) rfl rfl Tryd.func16 (by kernel_rfl) rfl #[.int .i64 a1] rfl (by (try simp only [List.map_toArray, List.map_cons, List.map_nil]); first | done | rfl | (simp only [List.length_drop, List.length_take]; rfl)) ?_; (with_reducible refine (forms_Of.calls a1 t347 t348 t349 t350 t351 t352 t353 t354 _ ?side1 A7.out).mono ?_); (case side1 => exact Glob.below HG.out (by repeat (first | (with_reducible first | exact HB.out | apply below_alloc | apply pw_below_drewN | apply below_drew1 | refine below_set ?_ GE346.out) | exact HB.out))); rintro e w34 ⟨rfl, hb⟩; refine ⟨_, rfl, ?_⟩; have n0_ := Aside0.mk (blk_below (g := gb346) (o := .cells #[.int .i64 t341, .bool t342, .int .u64 t343, .int .i64 t344] 31 (0, 0)) (by (with_reducible repeat (first | refine blk_drewN ?_ _ | refine blk_drew ?_ | refine blk_alloc ?_ _)); refine blk_put (cs := #[.int .i64 t341, .bool t342, .int .u64 t343, .int .i64 0]) ?_ 3 _ rfl; (with_reducible repeat (first | refine blk_drewN ?_ _ | refine blk_drew ?_ | refine blk_alloc ?_ _)); refine blk_put (cs := #[.int .i64 t341, .bool t342, .int .u64 0, .int .i64 0]) ?_ 2 _ rfl; (with_reducible repeat (first | refine blk_drewN ?_ _ | refine blk_drew ?_ | refine blk_alloc ?_ _)); refine blk_put (cs := #[.int .i64 t341, .bool false, .int .u64 0, .int .i64 0]) ?_ 1 _ rfl; (with_reducible repeat (first | refine blk_drewN ?_ _ | refine blk_drew ?_ | refine blk_alloc ?_ _)); refine blk_put (cs := #[.int .i64 0, .bool false, .int .u64 0, .int .i64 0]) ?_ 0 _ rfl; (with_reducible repeat (first | refine blk_drewN ?_ _ | refine blk_drew ?_ | refine blk_alloc ?_ _)); exact BK346.out) hb); have n1_ := Aside0.mk (below_step (by repeat (first | (with_reducible first | exact HB.out | apply below_alloc | apply pw_below_drewN | apply below_drew1 | refine below_set ?_ GE346.out) | exact HB.out)) hb); clear BK346; clear HB; have BK346 := n0_; have HB := n1_; clear n0_ n1_; (try clear hb); (try clear hb2); (try clear hk); (try clear hi)) | ((with_reducible refine gate_dst (N := 12) rfl ?_); refine box_event ?hg (N := 12) ?hd (cs := #[.int .i64 0, .int .i64 0, .int .i64 0, .int .i64 0, .int .u64 0, .int .u64 0, .int .u64 0]) (t := 44) ?hr ?_; (case hd => rfl); (case hg => rfl); (case hr => first | (go_simp; done) | (go_simp; rfl)); intro gb355 hg w35 hbox hb; have n0_ := Aside0.mk (blk_below (g := gb346) (o := .cells #[.int .i64 t341, .bool t342, .int .u64 t343, .int .i64 t344] 31 (0, 0)) (by (with_reducible repeat (first | refine blk_drewN ?_ _ | refine blk_drew ?_ | refine blk_alloc ?_ _)); exact BK346.out) hb); have n1_ := Aside0.mk (below_step (by repeat (first | (with_reducible first | exact HB.out | apply below_alloc | apply pw_below_drewN | apply below_drew1 | refine below_set ?_ GE346.out) | exact HB.out)) hb); have n2_ := Aside0.mk (hbox); have n3_ := Aside0.mk ((by rw [hg]; exact (below_size (by repeat (first | (with_reducible first | exact HB.out | apply below_alloc | apply pw_below_drewN | apply below_drew1 | refine below_set ?_ GE346.out) | exact HB.out))) : w.heap.size ≤ gb355)); have n4_ := Aside0.mk ((by rw [hg]; exact (below_size (by repeat (first | (with_reducible first | exact HB.out | apply below_alloc | apply pw_below_drewN | apply below_drew1 | refine below_set ?_ GE346.out) | exact HB.out))) : w.heap.size ≤ gb355)); have n5_ := Aside0.mk ((by rw [hg]; exact Nat.ne_of_lt (blk_lt (g := gb346) (o := .cells #[.int .i64 t341, .bool t342, .int .u64 t343, .int .i64 t344] 31 (0, 0)) (by (with_reducible repeat (first | refine blk_drewN ?_ _ | refine blk_drew ?_ | refine blk_alloc ?_ _)); exact BK346.out)) : gb346 ≠ gb355)); have n6_ := Aside0.mk ((by rw [hg]; exact Nat.ne_of_gt (blk_lt (g := gb346) (o := .cells #[.int .i64 t341, .bool t342, .int .u64 t343, .int .i64 t344] 31 (0, 0)) (by (with_reducible repeat (first | refine blk_drewN ?_ _ | refine blk_drew ?_ | refine blk_alloc ?_ _)); exact BK346.out)) : gb355 ≠ gb346)); clear BK346; clear HB; have BK346 := n0_; have HB := n1_; have BK355 := n2_; have GW355 := n3_; have GE355 := n4_; have NB346_355 := n5_; have NB355_346 := n6_; clear n0_ n1_ n2_ n3_ n4_ n5_ n6_; clear hb hbox hg; have hnb36 := NB355_346.out; have hnc36 := NB346_355.out; have hcz37_0 : w35.cell? ⟨gb355, 0, none⟩ = some (.int .i64 0) := (blk_cell BK355.out 0).trans rfl; have hcz37_1 : w35.cell? ⟨gb355, 1, none⟩ = some (.int .i64 0) := (blk_cell BK355.out 1).trans rfl; have hcz37_2 : w35.cell? ⟨gb355, 2, none⟩ = some (.int .i64 0) := (blk_cell BK355.out 2).trans rfl; have hcz37_3 : w35.cell? ⟨gb355, 3, none⟩ = some (.int .i64 0) := (blk_cell BK355.out 3).trans rfl; have hcz37_4 : w35.cell? ⟨gb355, 4, none⟩ = some (.int .u64 0) := (blk_cell BK355.out 4).trans rfl; have hcz37_5 : w35.cell? ⟨gb355, 5, none⟩ = some (.int .u64 0) := (blk_cell BK355.out 5).trans rfl; have hcz37_6 : w35.cell? ⟨gb355, 6, none⟩ = some (.int .u64 0) := (blk_cell BK355.out 6).trans rfl; have hfz37_0 := blk_frozen BK355.out 0; have hfz37_1 := blk_frozen BK355.out 1; have hfz37_2 := blk_frozen BK355.out 2; have hfz37_3 := blk_frozen BK355.out 3; have hfz37_4 := blk_frozen BK355.out 4; have hfz37_5 := blk_frozen BK355.out 5; have hfz37_6 := blk_frozen BK355.out 6))
          go_ret2
          exact ⟨by first | rfl | (simp [errW_none, errW_some] <;> rfl) | (simp [*, errW_none, errW_some] <;> rfl), by repeat (first | (with_reducible first | exact HB.out | apply below_alloc | apply pw_below_drewN | apply below_drew1 | refine below_set ?_ GE346.out | refine below_set ?_ GE355.out) | exact HB.out)⟩
    · rw [if_neg c8] at H
      have c8b0 : (t354 == 0) = false := beq_eq_false_iff_ne.mpr c8
      have c8b1 : (t354 != 0) = true := bne_iff_ne.mpr c8
      simp only [Option.some.injEq, Prod.mk.injEq] at H
      obtain ⟨rfl, rfl⟩ := H
      go_enter Tryd.func12, Tryd.ntmps12
      go_wp2_with (first | ((with_reducible refine gate_callee (f := 13) rfl ?_); refine goesL_ (some 16) rfl rfl Tryd.func13 (by kernel_rfl) rfl #[.int .i64 a0, .int .u64 a3] rfl (by (try simp only [List.map_toArray, List.map_cons, List.map_nil]); first | done | rfl | (simp only [List.length_drop, List.length_take]; rfl)) ?_; (with_reducible refine (value_Decode.calls a0 a3 t341 t342 t343 t344 t345 _ ?side1 A5.out).mono ?_); (case side1 => exact Glob.below HG.out (by repeat (first | (with_reducible first | exact HB.out | apply below_alloc | apply pw_below_drewN | apply below_drew1) | exact HB.out))); rintro e w38 ⟨rfl, hb⟩; refine ⟨_, rfl, ?_⟩; have n0_ := Aside0.mk (below_step (by repeat (first | (with_reducible first | exact HB.out | apply below_alloc | apply pw_below_drewN | apply below_drew1) | exact HB.out)) hb); clear HB; have HB := n0_; clear n0_; (try clear hb); (try clear hb2); (try clear hk); (try clear hi)) | ((with_reducible refine gate_dst (N := 10) rfl ?_); refine box_event ?hg (N := 10) ?hd (cs := #[.int .i64 0, .bool false, .int .u64 0, .int .i64 0]) (t := 31) ?hr ?_; (case hd => rfl); (case hg => rfl); (case hr => first | (go_simp; done) | (go_simp; rfl)); intro gb346 hg w39 hbox hb; have n0_ := Aside0.mk (below_step (by repeat (first | (with_reducible first | exact HB.out | apply below_alloc | apply pw_below_drewN | apply below_drew1) | exact HB.out)) hb); have n1_ := Aside0.mk (hbox); have n2_ := Aside0.mk ((by rw [hg]; exact (below_size (by repeat (first | (with_reducible first | exact HB.out | apply below_alloc | apply pw_below_drewN | apply below_drew1) | exact HB.out))) : w.heap.size ≤ gb346)); have n3_ := Aside0.mk ((by rw [hg]; exact (below_size (by repeat (first | (with_reducible first | exact HB.out | apply below_alloc | apply pw_below_drewN | apply below_drew1) | exact HB.out))) : w.heap.size ≤ gb346)); clear HB; have HB := n0_; have BK346 := n1_; have GW346 := n2_; have GE346 := n3_; clear n0_ n1_ n2_ n3_; clear hb hbox hg; have hcz40_0 : w39.cell? ⟨gb346, 0, none⟩ = some (.int .i64 0) := (blk_cell BK346.out 0).trans rfl; have hcz40_1 : w39.cell? ⟨gb346, 1, none⟩ = some (.bool false) := (blk_cell BK346.out 1).trans rfl; have hcz40_2 : w39.cell? ⟨gb346, 2, none⟩ = some (.int .u64 0) := (blk_cell BK346.out 2).trans rfl; have hcz40_3 : w39.cell? ⟨gb346, 3, none⟩ = some (.int .i64 0) := (blk_cell BK346.out 3).trans rfl; have hfz40_0 := blk_frozen BK346.out 0; have hfz40_1 := blk_frozen BK346.out 1; have hfz40_2 := blk_frozen BK346.out 2; have hfz40_3 := blk_frozen BK346.out 3) | ((with_reducible refine gate_callee (f := 16) rfl ?_); refine goesL_ (some 24) rfl rfl Tryd.func16 (by kernel_rfl) rfl #[.int .i64 a1] rfl (by (try simp only [List.map_toArray, List.map_cons, List.map_nil]); first | done | rfl | (simp only [List.length_drop, List.length_take]; rfl)) ?_; (with_reducible refine (forms_Of.calls a1 t347 t348 t349 t350 t351 t352 t353 t354 _ ?side1 A7.out).mono ?_); (case side1 => exact Glob.below HG.out (by repeat (first | (with_reducible first | exact HB.out | apply below_alloc | apply pw_below_drewN | apply below_drew1 | refine below_set ?_ GE346.out) | exact HB.out))); rintro e w41 ⟨rfl, hb⟩; refine ⟨_, rfl, ?_⟩; have n0_ := Aside0.mk (blk_below (g := gb346) (o := .cells #[.int .i64 t341, .bool t342, .int .u64 t343, .int .i64 t344] 31 (0, 0)) (by (with_reducible repeat (first | refine blk_drewN ?_ _ | refine blk_drew ?_ | refine blk_alloc ?_ _)); refine blk_put (cs := #[.int .i64 t341, .bool t342, .int .u64 t343, .int .i64 0]) ?_ 3 _ rfl; (with_reducible repeat (first | refine blk_drewN ?_ _ | refine blk_drew ?_ | refine blk_alloc ?_ _)); refine blk_put (cs := #[.int .i64 t341, .bool t342, .int .u64 0, .int .i64 0]) ?_ 2 _ rfl; (with_reducible repeat (first | refine blk_drewN ?_ _ | refine blk_drew ?_ | refine blk_alloc ?_ _)); refine blk_put (cs := #[.int .i64 t341, .bool false, .int .u64 0, .int .i64 0]) ?_ 1 _ rfl; (with_reducible repeat (first | refine blk_drewN ?_ _ | refine blk_drew ?_ | refine blk_alloc ?_ _)); refine blk_put (cs := #[.int .i64 0, .bool false, .int .u64 0, .int .i64 0]) ?_ 0 _ rfl; (with_reducible repeat (first | refine blk_drewN ?_ _ | refine blk_drew ?_ | refine blk_alloc ?_ _)); exact BK346.out) hb); have n1_ := Aside0.mk (below_step (by repeat (first | (with_reducible first | exact HB.out | apply below_alloc | apply pw_below_drewN | apply below_drew1 | refine below_set ?_ GE346.out) | exact HB.out)) hb); clear BK346; clear HB; have BK346 := n0_; have HB := n1_; clear n0_ n1_; (try clear hb); (try clear hb2); (try clear hk); (try clear hi)) | ((with_reducible refine gate_dst (N := 12) rfl ?_); refine box_event ?hg (N := 12) ?hd (cs := #[.int .i64 0, .int .i64 0, .int .i64 0, .int .i64 0, .int .u64 0, .int .u64 0, .int .u64 0]) (t := 44) ?hr ?_; (case hd => rfl); (case hg => rfl); (case hr => first | (go_simp; done) | (go_simp; rfl)); intro gb355 hg w42 hbox hb; have n0_ := Aside0.mk (blk_below (g := gb346) (o := .cells #[.int .i64 t341, .bool t342, .int .u64 t343, .int .i64 t344] 31 (0, 0)) (by (with_reducible repeat (first | refine blk_drewN ?_ _ | refine blk_drew ?_ | refine blk_alloc ?_ _)); exact BK346.out) hb); have n1_ := Aside0.mk (below_step (by repeat (first | (with_reducible first | exact HB.out | apply below_alloc | apply pw_below_drewN | apply below_drew1 | refine below_set ?_ GE346.out) | exact HB.out)) hb); have n2_ := Aside0.mk (hbox); have n3_ := Aside0.mk ((by rw [hg]; exact (below_size (by repeat (first | (with_reducible first | exact HB.out | apply below_alloc | apply pw_below_drewN | apply below_drew1 | refine below_set ?_ GE346.out) | exact HB.out))) : w.heap.size ≤ gb355)); have n4_ := Aside0.mk ((by rw [hg]; exact (below_size (by repeat (first | (with_reducible first | exact HB.out | apply below_alloc | apply pw_below_drewN | apply below_drew1 | refine below_set ?_ GE346.out) | exact HB.out))) : w.heap.size ≤ gb355)); have n5_ := Aside0.mk ((by rw [hg]; exact Nat.ne_of_lt (blk_lt (g := gb346) (o := .cells #[.int .i64 t341, .bool t342, .int .u64 t343, .int .i64 t344] 31 (0, 0)) (by (with_reducible repeat (first | refine blk_drewN ?_ _ | refine blk_drew ?_ | refine blk_alloc ?_ _)); exact BK346.out)) : gb346 ≠ gb355)); have n6_ := Aside0.mk ((by rw [hg]; exact Nat.ne_of_gt (blk_lt (g := gb346) (o := .cells #[.int .i64 t341, .bool t342, .int .u64 t343, .int .i64 t344] 31 (0, 0)) (by (with_reducible repeat (first | refine blk_drewN ?_ _ | refine blk_drew ?_ | refine blk_alloc ?_ _)); exact BK346.out)) : gb355 ≠ gb346)); clear BK346; clear HB; have BK346 := n0_; have HB := n1_; have BK355 := n2_; have GW355 := n3_; have GE355 := n4_; have NB346_355 := n5_; have NB355_346 := n6_; clear n0_ n1_ n2_ n3_ n4_ n5_ n6_; clear hb hbox hg; have hnb43 := NB355_346.out; have hnc43 := NB346_355.out; have hcz44_0 : w42.cell? ⟨gb355, 0, none⟩ = some (.int .i64 0) := (blk_cell BK355.out 0).trans rfl; have hcz44_1 : w42.cell? ⟨gb355, 1, none⟩ = some (.int .i64 0) := (blk_cell BK355.out 1).trans rfl; have hcz44_2 : w42.cell? ⟨gb355, 2, none⟩ = some (.int .i64 0) := (blk_cell BK355.out 2).trans rfl; have hcz44_3 : w42.cell? ⟨gb355, 3, none⟩ = some (.int .i64 0) := (blk_cell BK355.out 3).trans rfl; have hcz44_4 : w42.cell? ⟨gb355, 4, none⟩ = some (.int .u64 0) := (blk_cell BK355.out 4).trans rfl; have hcz44_5 : w42.cell? ⟨gb355, 5, none⟩ = some (.int .u64 0) := (blk_cell BK355.out 5).trans rfl; have hcz44_6 : w42.cell? ⟨gb355, 6, none⟩ = some (.int .u64 0) := (blk_cell BK355.out 6).trans rfl; have hfz44_0 := blk_frozen BK355.out 0; have hfz44_1 := blk_frozen BK355.out 1; have hfz44_2 := blk_frozen BK355.out 2; have hfz44_3 := blk_frozen BK355.out 3; have hfz44_4 := blk_frozen BK355.out 4; have hfz44_5 := blk_frozen BK355.out 5; have hfz44_6 := blk_frozen BK355.out 6))
      go_ret2
      exact ⟨by first | rfl | (simp [errW_none, errW_some] <;> rfl) | (simp [*, errW_none, errW_some] <;> rfl), by repeat (first | (with_reducible first | exact HB.out | apply below_alloc | apply pw_below_drewN | apply below_drew1 | refine below_set ?_ GE346.out | refine below_set ?_ GE355.out) | exact HB.out)⟩
  · rw [if_neg c6] at H
    have c6b0 : (t345 == 0) = false := beq_eq_false_iff_ne.mpr c6
    have c6b1 : (t345 != 0) = true := bne_iff_ne.mpr c6
    simp only [Option.some.injEq, Prod.mk.injEq] at H
    obtain ⟨rfl, rfl⟩ := H
    go_enter Tryd.func12, Tryd.ntmps12
    go_wp2_with (first | ((with_reducible refine gate_callee (f := 13) rfl ?_); refine goesL_ (some 16) rfl rfl Tryd.func13 (by kernel_rfl) rfl #[.int .i64 a0, .int .u64 a3] rfl (by (try simp only [List.map_toArray, List.map_cons, List.map_nil]); first | done | rfl | (simp only [List.length_drop, List.length_take]; rfl)) ?_; (with_reducible refine (value_Decode.calls a0 a3 t341 t342 t343 t344 t345 _ ?side1 A5.out).mono ?_); (case side1 => exact Glob.below HG.out (by repeat (first | (with_reducible first | exact HB.out | apply below_alloc | apply pw_below_drewN | apply below_drew1) | exact HB.out))); rintro e w45 ⟨rfl, hb⟩; refine ⟨_, rfl, ?_⟩; have n0_ := Aside0.mk (below_step (by repeat (first | (with_reducible first | exact HB.out | apply below_alloc | apply pw_below_drewN | apply below_drew1) | exact HB.out)) hb); clear HB; have HB := n0_; clear n0_; (try clear hb); (try clear hb2); (try clear hk); (try clear hi)) | ((with_reducible refine gate_dst (N := 10) rfl ?_); refine box_event ?hg (N := 10) ?hd (cs := #[.int .i64 0, .bool false, .int .u64 0, .int .i64 0]) (t := 31) ?hr ?_; (case hd => rfl); (case hg => rfl); (case hr => first | (go_simp; done) | (go_simp; rfl)); intro gb346 hg w46 hbox hb; have n0_ := Aside0.mk (below_step (by repeat (first | (with_reducible first | exact HB.out | apply below_alloc | apply pw_below_drewN | apply below_drew1) | exact HB.out)) hb); have n1_ := Aside0.mk (hbox); have n2_ := Aside0.mk ((by rw [hg]; exact (below_size (by repeat (first | (with_reducible first | exact HB.out | apply below_alloc | apply pw_below_drewN | apply below_drew1) | exact HB.out))) : w.heap.size ≤ gb346)); have n3_ := Aside0.mk ((by rw [hg]; exact (below_size (by repeat (first | (with_reducible first | exact HB.out | apply below_alloc | apply pw_below_drewN | apply below_drew1) | exact HB.out))) : w.heap.size ≤ gb346)); clear HB; have HB := n0_; have BK346 := n1_; have GW346 := n2_; have GE346 := n3_; clear n0_ n1_ n2_ n3_; clear hb hbox hg; have hcz47_0 : w46.cell? ⟨gb346, 0, none⟩ = some (.int .i64 0) := (blk_cell BK346.out 0).trans rfl; have hcz47_1 : w46.cell? ⟨gb346, 1, none⟩ = some (.bool false) := (blk_cell BK346.out 1).trans rfl; have hcz47_2 : w46.cell? ⟨gb346, 2, none⟩ = some (.int .u64 0) := (blk_cell BK346.out 2).trans rfl; have hcz47_3 : w46.cell? ⟨gb346, 3, none⟩ = some (.int .i64 0) := (blk_cell BK346.out 3).trans rfl; have hfz47_0 := blk_frozen BK346.out 0; have hfz47_1 := blk_frozen BK346.out 1; have hfz47_2 := blk_frozen BK346.out 2; have hfz47_3 := blk_frozen BK346.out 3))
    go_ret2
    exact ⟨by first | rfl | (simp [errW_none, errW_some] <;> rfl) | (simp [*, errW_none, errW_some] <;> rfl), by repeat (first | (with_reducible first | exact HB.out | apply below_alloc | apply pw_below_drewN | apply below_drew1 | refine below_set ?_ GE346.out) | exact HB.out)⟩

def trans_Just.f (k : Nat) (a0 : Int) (a1 : Int) (a2 : Int) : Option (Bool × Int) := (trans_Turn.f k a0 a1 2 a2).bind fun bt358 => (if bt358.2 = 0 then ((value_Decode.f a0 a2).bind fun bt360 => ((value_Decode.f a1 bt358.1).bind fun bt366 => (if (bt360.1 == bt366.1 && (bt360.2.1 == bt366.2.1 && (bt360.2.2.1 == bt366.2.2.1 && (bt360.2.2.2.1 == bt366.2.2.2.1)))) = true then (if bt360.1 = 3 then (some (false, 0)) else (some ((bt360.1 != 4), 0))) else (some (false, 0))))) else (some (false, bt358.2)))
theorem trans_Just.mono : ∀ a0 a1 a2 k, LeO (trans_Just.f k a0 a1 a2) (trans_Just.f (k + 1) a0 a1 a2) := by
  intro a0 a1 a2 k
  unfold trans_Just.f
  repeat' first
      | (with_reducible exact trans_Turn.mono _ _ _ _ _)
      | (with_reducible exact LeO.refl _)
      | (with_reducible exact LeO.none _)
      | (with_reducible refine LeO.ite ?_ ?_)
      | (with_reducible refine LeO.bind ?_ (fun _ => ?_))
      | exact trans_Turn.mono _ _ _ _ _
      | exact LeO.none _
      | refine LeO.ite ?_ ?_
      | refine LeO.bind ?_ (fun _ => ?_)
set_option maxHeartbeats 8000000 in
set_option maxRecDepth 100000 in
theorem trans_Just.calls (k : Nat) (a0 : Int) (a1 : Int) (a2 : Int) (r1 : Bool) (r2 : Int) (w : World) (hG : Glob w) (h : trans_Just.f k a0 a1 a2 = some (r1, r2)) :
    Calls Tryd.prog 11 #[.int .i64 a0, .int .i64 a1, .int .u64 a2] w fun e w' => e = .returned (.tuple #[.bool r1, .int .i64 r2]) ∧ Below w.heap.size w w' := by
  have hu31 := Tryd.underlying31
  have HG := Aside0.mk hG
  clear hG
  have HB := Aside0.mk (Below.refl w.heap.size w)
  have H : ((trans_Turn.f k a0 a1 2 a2).bind fun bt358 => (if bt358.2 = 0 then ((value_Decode.f a0 a2).bind fun bt360 => ((value_Decode.f a1 bt358.1).bind fun bt366 => (if (bt360.1 == bt366.1 && (bt360.2.1 == bt366.2.1 && (bt360.2.2.1 == bt366.2.2.1 && (bt360.2.2.2.1 == bt366.2.2.2.1)))) = true then (if bt360.1 = 3 then (some (false, 0)) else (some ((bt360.1 != 4), 0))) else (some (false, 0))))) else (some (false, bt358.2)))) = some (r1, r2) := h
  clear h
  replace H := Option.bind_eq_some_iff.mp H
  obtain ⟨⟨t358, t359⟩, A40, H⟩ := H
  replace H : (if t359 = 0 then ((value_Decode.f a0 a2).bind fun bt360 => ((value_Decode.f a1 t358).bind fun bt366 => (if (bt360.1 == bt366.1 && (bt360.2.1 == bt366.2.1 && (bt360.2.2.1 == bt366.2.2.1 && (bt360.2.2.2.1 == bt366.2.2.2.1)))) = true then (if bt360.1 = 3 then (some (false, 0)) else (some ((bt360.1 != 4), 0))) else (some (false, 0))))) else (some (false, t359))) = some (r1, r2) := H
  have A4 := Aside0.mk A40
  clear A40
  by_cases c5 : t359 = 0
  · rw [if_pos c5] at H
    have c5b0 : (t359 == 0) = true := beq_iff_eq.mpr c5
    have c5b1 : (t359 != 0) = false := bne_eq_false_iff_eq.mpr c5
    clear c5
    replace H := Option.bind_eq_some_iff.mp H
    obtain ⟨⟨t360, t361, t362, t363, t364⟩, A60, H⟩ := H
    replace H : ((value_Decode.f a1 t358).bind fun bt366 => (if (t360 == bt366.1 && (t361 == bt366.2.1 && (t362 == bt366.2.2.1 && (t363 == bt366.2.2.2.1)))) = true then (if t360 = 3 then (some (false, 0)) else (some ((t360 != 4), 0))) else (some (false, 0)))) = some (r1, r2) := H
    have A6 := Aside0.mk A60
    clear A60
    replace H := Option.bind_eq_some_iff.mp H
    obtain ⟨⟨t366, t367, t368, t369, t370⟩, A70, H⟩ := H
    replace H : (if (t360 == t366 && (t361 == t367 && (t362 == t368 && (t363 == t369)))) = true then (if t360 = 3 then (some (false, 0)) else (some ((t360 != 4), 0))) else (some (false, 0))) = some (r1, r2) := H
    have A7 := Aside0.mk A70
    clear A70
    by_cases c8 : (t360 == t366 && (t361 == t367 && (t362 == t368 && (t363 == t369)))) = true
    · rw [if_pos c8] at H
      have c8b0 : (t360 == t366 && (t361 == t367 && (t362 == t368 && (t363 == t369)))) = true := c8
      (try (have c8b1 : decide (t360 = t366 && (t361 == t367 && (t362 == t368 && (t363 == t369)))) = true := by simpa using c8))
      (try (have c8b2 : (t360 == t366 && (t361 == t367 && (t362 == t368 && (t363 == t369)))) = true := by simpa using c8))
      clear c8
      by_cases c9 : t360 = 3
      · rw [if_pos c9] at H
        have c9b0 : (t360 == 3) = true := beq_iff_eq.mpr c9
        have c9b1 : (t360 != 3) = false := bne_eq_false_iff_eq.mpr c9
        clear c9
        simp only [Option.some.injEq, Prod.mk.injEq] at H
        obtain ⟨rfl, rfl⟩ := H
        go_enter Tryd.func11, Tryd.ntmps11
        go_wp2_with (first | ((with_reducible refine gate_callee (f := 12) rfl ?_); refine goesL_ (some 18) rfl rfl Tryd.func12 (by kernel_rfl) rfl #[.int .i64 a0, .int .i64 a1, .int .i64 2, .int .u64 a2] rfl (by (try simp only [List.map_toArray, List.map_cons, List.map_nil]); first | done | rfl | (simp only [List.length_drop, List.length_take]; rfl)) ?_; (with_reducible refine (trans_Turn.calls k a0 a1 2 a2 t358 t359 _ ?side1 A4.out).mono ?_); (case side1 => exact Glob.below HG.out (by repeat (first | (with_reducible first | exact HB.out | apply below_alloc | apply pw_below_drewN | apply below_drew1) | exact HB.out))); rintro e w10 ⟨rfl, hb⟩; refine ⟨_, rfl, ?_⟩; have n0_ := Aside0.mk (below_step (by repeat (first | (with_reducible first | exact HB.out | apply below_alloc | apply pw_below_drewN | apply below_drew1) | exact HB.out)) hb); clear HB; have HB := n0_; clear n0_; (try clear hb); (try clear hb2); (try clear hk); (try clear hi)) | ((with_reducible refine gate_callee (f := 13) rfl ?_); refine goesL_ (some 27) rfl rfl Tryd.func13 (by kernel_rfl) rfl #[.int .i64 a0, .int .u64 a2] rfl (by (try simp only [List.map_toArray, List.map_cons, List.map_nil]); first | done | rfl | (simp only [List.length_drop, List.length_take]; rfl)) ?_; (with_reducible refine (value_Decode.calls a0 a2 t360 t361 t362 t363 t364 _ ?side1 A6.out).mono ?_); (case side1 => exact Glob.below HG.out (by repeat (first | (with_reducible first | exact HB.out | apply below_alloc | apply pw_below_drewN | apply below_drew1) | exact HB.out))); rintro e w11 ⟨rfl, hb⟩; refine ⟨_, rfl, ?_⟩; have n0_ := Aside0.mk (below_step (by repeat (first | (with_reducible first | exact HB.out | apply below_alloc | apply pw_below_drewN | apply below_drew1) | exact HB.out)) hb); clear HB; have HB := n0_; clear n0_; (try clear hb); (try clear hb2); (try clear hk); (try clear hi)) | ((with_reducible refine gate_dst (N := 10) rfl ?_); refine box_event ?hg (N := 10) ?hd (cs := #[.int .i64 0, .bool false, .int .u64 0, .int .i64 0]) (t := 31) ?hr ?_; (case hd => rfl); (case hg => rfl); (case hr => first | (go_simp; done) | (go_simp; rfl)); intro gb365 hg w12 hbox hb; have n0_ := Aside0.mk (below_step (by repeat (first | (with_reducible first | exact HB.out | apply below_alloc | apply pw_below_drewN | apply below_drew1) | exact HB.out)) hb); have n1_ := Aside0.mk (hbox); have n2_ := Aside0.mk ((by rw [hg]; exact (below_size (by repeat (first | (with_reducible first | exact HB.out | apply below_alloc | apply pw_below_drewN | apply below_drew1) | exact HB.out))) : w.heap.size ≤ gb365)); have n3_ := Aside0.mk ((by rw [hg]; exact (below_size (by repeat (first | (with_reducible first | exact HB.out | apply below_alloc | apply pw_below_drewN | apply below_drew1) | exact HB.out))) : w.heap.size ≤ gb365)); clear HB; have HB := n0_; have BK365 := n1_; have GW365 := n2_; have GE365 := n3_; clear n0_ n1_ n2_ n3_; clear hb hbox hg; have hcz13_0 : w12.cell? ⟨gb365, 0, none⟩ = some (.int .i64 0) := (blk_cell BK365.out 0).trans rfl; have hcz13_1 : w12.cell? ⟨gb365, 1, none⟩ = some (.bool false) := (blk_cell BK365.out 1).trans rfl; have hcz13_2 : w12.cell? ⟨gb365, 2, none⟩ = some (.int .u64 0) := (blk_cell BK365.out 2).trans rfl; have hcz13_3 : w12.cell? ⟨gb365, 3, none⟩ = some (.int .i64 0) := (blk_cell BK365.out 3).trans rfl; have hfz13_0 := blk_frozen BK365.out 0; have hfz13_1 := blk_frozen BK365.out 1; have hfz13_2 := blk_frozen BK365.out 2; have hfz13_3 := blk_frozen BK365.out 3) | ((with_reducible refine gate_callee (f := 13) rfl ?_); refine goesL_ (some 33) rfl rfl Tryd.func13 (by kernel_rfl) rfl #[.int .i64 a1, .int .u64 t358] rfl (by (try simp only [List.map_toArray, List.map_cons, List.map_nil]); first | done | rfl | (simp only [List.length_drop, List.length_take]; rfl)) ?_; (with_reducible refine (value_Decode.calls a1 t358 t366 t367 t368 t369 t370 _ ?side1 A7.out).mono ?_); (case side1 => exact Glob.below HG.out (by repeat (first | (with_reducible first | exact HB.out | apply below_alloc | apply pw_below_drewN | apply below_drew1 | refine below_set ?_ GE365.out) | exact HB.out))); rintro e w14 ⟨rfl, hb⟩; refine ⟨_, rfl, ?_⟩; have n0_ := Aside0.mk (blk_below (g := gb365) (o := .cells #[.int .i64 t360, .bool t361, .int .u64 t362, .int .i64 t363] 31 (0, 0)) (by (with_reducible repeat (first | refine blk_drewN ?_ _ | refine blk_drew ?_ | refine blk_alloc ?_ _)); refine blk_put (cs := #[.int .i64 t360, .bool t361, .int .u64 t362, .int .i64 0]) ?_ 3 _ rfl; (with_reducible repeat (first | refine blk_drewN ?_ _ | refine blk_drew ?_ | refine blk_alloc ?_ _)); refine blk_put (cs := #[.int .i64 t360, .bool t361, .int .u64 0, .int .i64 0]) ?_ 2 _ rfl; (with_reducible repeat (first | refine blk_drewN ?_ _ | refine blk_drew ?_ | refine blk_alloc ?_ _)); refine blk_put (cs := #[.int .i64 t360, .bool false, .int .u64 0, .int .i64 0]) ?_ 1 _ rfl; (with_reducible repeat (first | refine blk_drewN ?_ _ | refine blk_drew ?_ | refine blk_alloc ?_ _)); refine blk_put (cs := #[.int .i64 0, .bool false, .int .u64 0, .int .i64 0]) ?_ 0 _ rfl; (with_reducible repeat (first | refine blk_drewN ?_ _ | refine blk_drew ?_ | refine blk_alloc ?_ _)); exact BK365.out) hb); have n1_ := Aside0.mk (below_step (by repeat (first | (with_reducible first | exact HB.out | apply below_alloc | apply pw_below_drewN | apply below_drew1 | refine below_set ?_ GE365.out) | exact HB.out)) hb); clear BK365; clear HB; have BK365 := n0_; have HB := n1_; clear n0_ n1_; (try clear hb); (try clear hb2); (try clear hk); (try clear hi)) | ((with_reducible refine gate_dst (N := 12) rfl ?_); refine box_event ?hg (N := 12) ?hd (cs := #[.int .i64 0, .bool false, .int .u64 0, .int .i64 0]) (t := 31) ?hr ?_; (case hd => rfl); (case hg => rfl); (case hr => first | (go_simp; done) | (go_simp; rfl)); intro gb371 hg w15 hbox hb; have n0_ := Aside0.mk (blk_below (g := gb365) (o := .cells #[.int .i64 t360, .bool t361, .int .u64 t362, .int .i64 t363] 31 (0, 0)) (by (with_reducible repeat (first | refine blk_drewN ?_ _ | refine blk_drew ?_ | refine blk_alloc ?_ _)); exact BK365.out) hb); have n1_ := Aside0.mk (below_step (by repeat (first | (with_reducible first | exact HB.out | apply below_alloc | apply pw_below_drewN | apply below_drew1 | refine below_set ?_ GE365.out) | exact HB.out)) hb); have n2_ := Aside0.mk (hbox); have n3_ := Aside0.mk ((by rw [hg]; exact (below_size (by repeat (first | (with_reducible first | exact HB.out | apply below_alloc | apply pw_below_drewN | apply below_drew1 | refine below_set ?_ GE365.out) | exact HB.out))) : w.heap.size ≤ gb371)); have n4_ := Aside0.mk ((by rw [hg]; exact (below_size (by repeat (first | (with_reducible first | exact HB.out | apply below_alloc | apply pw_below_drewN | apply below_drew1 | refine below_set ?_ GE365.out) | exact HB.out))) : w.heap.size ≤ gb371)); have n5_ := Aside0.mk ((by rw [hg]; exact Nat.ne_of_lt (blk_lt (g := gb365) (o := .cells #[.int .i64 t360, .bool t361, .int .u64 t362, .int .i64 t363] 31 (0, 0)) (by (with_reducible repeat (first | refine blk_drewN ?_ _ | refine blk_drew ?_ | refine blk_alloc ?_ _)); exact BK365.out)) : gb365 ≠ gb371)); have n6_ := Aside0.mk ((by rw [hg]; exact Nat.ne_of_gt (blk_lt (g := gb365) (o := .cells #[.int .i64 t360, .bool t361, .int .u64 t362, .int .i64 t363] 31 (0, 0)) (by (with_reducible repeat (first | refine blk_drewN ?_ _ | refine blk_drew ?_ | refine blk_alloc ?_ _)); exact BK365.out)) : gb371 ≠ gb365)); clear BK365; clear HB; have BK365 := n0_; have HB := n1_; have BK371 := n2_; have GW371 := n3_; have GE371 := n4_; have NB365_371 := n5_; have NB371_365 := n6_; clear n0_ n1_ n2_ n3_ n4_ n5_ n6_; clear hb hbox hg; have hnb16 := NB371_365.out; have hnc16 := NB365_371.out; have hcz17_0 : w15.cell? ⟨gb371, 0, none⟩ = some (.int .i64 0) := (blk_cell BK371.out 0).trans rfl; have hcz17_1 : w15.cell? ⟨gb371, 1, none⟩ = some (.bool false) := (blk_cell BK371.out 1).trans rfl; have hcz17_2 : w15.cell? ⟨gb371, 2, none⟩ = some (.int .u64 0) := (blk_cell BK371.out 2).trans rfl; have hcz17_3 : w15.cell? ⟨gb371, 3, none⟩ = some (.int .i64 0) := (blk_cell BK371.out 3).trans rfl; have hfz17_0 := blk_frozen BK371.out 0; have hfz17_1 := blk_frozen BK371.out 1; have hfz17_2 := blk_frozen BK371.out 2; have hfz17_3 := blk_frozen BK371.out 3; have hcz18_0 : w15.cell? ⟨gb365, 0, none⟩ = some (.int .i64 t360) := (blk_cell BK365.out 0).trans rfl; have hcz18_1 : w15.cell? ⟨gb365, 1, none⟩ = some (.bool t361) := (blk_cell BK365.out 1).trans rfl; have hcz18_2 : w15.cell? ⟨gb365, 2, none⟩ = some (.int .u64 t362) := (blk_cell BK365.out 2).trans rfl; have hcz18_3 : w15.cell? ⟨gb365, 3, none⟩ = some (.int .i64 t363) := (blk_cell BK365.out 3).trans rfl; have hfz18_0 := blk_frozen BK365.out 0; have hfz18_1 := blk_frozen BK365.out 1; have hfz18_2 := blk_frozen BK365.out 2; have hfz18_3 := blk_frozen BK365.out 3))
        go_ret2
        exact ⟨by first | rfl | (simp [errW_none, errW_some] <;> rfl) | (simp [*, errW_none, errW_some] <;> rfl), by repeat (first | (with_reducible first | exact HB.out | apply below_alloc | apply pw_below_drewN | apply below_drew1 | refine below_set ?_ GE365.out | refine below_set ?_ GE371.out) | exact HB.out)⟩
      · rw [if_neg c9] at H
        have c9b0 : (t360 == 3) = false := beq_eq_false_iff_ne.mpr c9
        have c9b1 : (t360 != 3) = true := bne_iff_ne.mpr c9
        simp only [Option.some.injEq, Prod.mk.injEq] at H
        obtain ⟨rfl, rfl⟩ := H
        go_enter Tryd.func11, Tryd.ntmps11
        go_wp2_with (first | ((with_reducible refine gate_callee (f := 12) rfl ?_); refine goesL_ (some 18) rfl rfl Tryd.func12 (by kernel_rfl) rfl #[.int .i64 a0, .int .i64 a1, .int .i64 2, .int .u64 a2] rfl (by (try simp only [List.map_toArray, List.map_cons, List.map_nil]); first | done | rfl | (simp only [List.length_drop, List.length_take]; rfl)) ?_; (with_reducible refine (trans_Turn.calls k a0 a1 2 a2 t358 t359 _ ?side1 A4.out).mono ?_); (case side1 => exact Glob.below HG.out (by repeat (first | (with_reducible first | exact HB.out | apply below_alloc | apply pw_below_drewN | apply below_drew1) | exact HB.out))); rintro e w19 ⟨rfl, hb⟩; refine ⟨_, rfl, ?_⟩; have n0_ := Aside0.mk (below_step (by repeat (first | (with_reducible first | exact HB.out | apply below_alloc | apply pw_below_drewN | apply below_drew1) | exact HB.out)) hb); clear HB; have HB := n0_; clear n0_; (try clear hb); (try clear hb2); (try clear hk); (try clear hi)) | ((with_reducible refine gate_callee (f := 13) rfl ?_); refine goesL_ (some 27) rfl rfl Tryd.func13 (by kernel_rfl) rfl #[.int .i64 a0, .int .u64 a2] rfl (by (try simp only [List.map_toArray, List.map_cons, List.map_nil]); first | done | rfl | (simp only [List.length_drop, List.length_take]; rfl)) ?_; (with_reducible refine (value_Decode.calls a0 a2 t360 t361 t362 t363 t364 _ ?side1 A6.out).mono ?_); (case side1 => exact Glob.below HG.out (by repeat (first | (with_reducible first | exact HB.out | apply below_alloc | apply pw_below_drewN | apply below_drew1) | exact HB.out))); rintro e w20 ⟨rfl, hb⟩; refine ⟨_, rfl, ?_⟩; have n0_ := Aside0.mk (below_step (by repeat (first | (with_reducible first | exact HB.out | apply below_alloc | apply pw_below_drewN | apply below_drew1) | exact HB.out)) hb); clear HB; have HB := n0_; clear n0_; (try clear hb); (try clear hb2); (try clear hk); (try clear hi)) | ((with_reducible refine gate_dst (N := 10) rfl ?_); refine box_event ?hg (N := 10) ?hd (cs := #[.int .i64 0, .bool false, .int .u64 0, .int .i64 0]) (t := 31) ?hr ?_; (case hd => rfl); (case hg => rfl); (case hr => first | (go_simp; done) | (go_simp; rfl)); intro gb365 hg w21 hbox hb; have n0_ := Aside0.mk (below_step (by repeat (first | (with_reducible first | exact HB.out | apply below_alloc | apply pw_below_drewN | apply below_drew1) | exact HB.out)) hb); have n1_ := Aside0.mk (hbox); have n2_ := Aside0.mk ((by rw [hg]; exact (below_size (by repeat (first | (with_reducible first | exact HB.out | apply below_alloc | apply pw_below_drewN | apply below_drew1) | exact HB.out))) : w.heap.size ≤ gb365)); have n3_ := Aside0.mk ((by rw [hg]; exact (below_size (by repeat (first | (with_reducible first | exact HB.out | apply below_alloc | apply pw_below_drewN | apply below_drew1) | exact HB.out))) : w.heap.size ≤ gb365)); clear HB; have HB := n0_; have BK365 := n1_; have GW365 := n2_; have GE365 := n3_; clear n0_ n1_ n2_ n3_; clear hb hbox hg; have hcz22_0 : w21.cell? ⟨gb365, 0, none⟩ = some (.int .i64 0) := (blk_cell BK365.out 0).trans rfl; have hcz22_1 : w21.cell? ⟨gb365, 1, none⟩ = some (.bool false) := (blk_cell BK365.out 1).trans rfl; have hcz22_2 : w21.cell? ⟨gb365, 2, none⟩ = some (.int .u64 0) := (blk_cell BK365.out 2).trans rfl; have hcz22_3 : w21.cell? ⟨gb365, 3, none⟩ = some (.int .i64 0) := (blk_cell BK365.out 3).trans rfl; have hfz22_0 := blk_frozen BK365.out 0; have hfz22_1 := blk_frozen BK365.out 1; have hfz22_2 := blk_frozen BK365.out 2; have hfz22_3 := blk_frozen BK365.out 3) | ((with_reducible refine gate_callee (f := 13) rfl ?_); refine goesL_ (some 33) rfl rfl Tryd.func13 (by kernel_rfl) rfl #[.int .i64 a1, .int .u64 t358] rfl (by (try simp only [List.map_toArray, List.map_cons, List.map_nil]); first | done | rfl | (simp only [List.length_drop, List.length_take]; rfl)) ?_; (with_reducible refine (value_Decode.calls a1 t358 t366 t367 t368 t369 t370 _ ?side1 A7.out).mono ?_); (case side1 => exact Glob.below HG.out (by repeat (first | (with_reducible first | exact HB.out | apply below_alloc | apply pw_below_drewN | apply below_drew1 | refine below_set ?_ GE365.out) | exact HB.out))); rintro e w23 ⟨rfl, hb⟩; refine ⟨_, rfl, ?_⟩; have n0_ := Aside0.mk (blk_below (g := gb365) (o := .cells #[.int .i64 t360, .bool t361, .int .u64 t362, .int .i64 t363] 31 (0, 0)) (by (with_reducible repeat (first | refine blk_drewN ?_ _ | refine blk_drew ?_ | refine blk_alloc ?_ _)); refine blk_put (cs := #[.int .i64 t360, .bool t361, .int .u64 t362, .int .i64 0]) ?_ 3 _ rfl; (with_reducible repeat (first | refine blk_drewN ?_ _ | refine blk_drew ?_ | refine blk_alloc ?_ _)); refine blk_put (cs := #[.int .i64 t360, .bool t361, .int .u64 0, .int .i64 0]) ?_ 2 _ rfl; (with_reducible repeat (first | refine blk_drewN ?_ _ | refine blk_drew ?_ | refine blk_alloc ?_ _)); refine blk_put (cs := #[.int .i64 t360, .bool false, .int .u64 0, .int .i64 0]) ?_ 1 _ rfl; (with_reducible repeat (first | refine blk_drewN ?_ _ | refine blk_drew ?_ | refine blk_alloc ?_ _)); refine blk_put (cs := #[.int .i64 0, .bool false, .int .u64 0, .int .i64 0]) ?_ 0 _ rfl; (with_reducible repeat (first | refine blk_drewN ?_ _ | refine blk_drew ?_ | refine blk_alloc ?_ _)); exact BK365.out) hb); have n1_ := Aside0.mk (below_step (by repeat (first | (with_reducible first | exact HB.out | apply below_alloc | apply pw_below_drewN | apply below_drew1 | refine below_set ?_ GE365.out) | exact HB.out)) hb); clear BK365; clear HB; have BK365 := n0_; have HB := n1_; clear n0_ n1_; (try clear hb); (try clear hb2); (try clear hk); (try clear hi)) | ((with_reducible refine gate_dst (N := 12) rfl ?_); refine box_event ?hg (N := 12) ?hd (cs := #[.int .i64 0, .bool false, .int .u64 0, .int .i64 0]) (t := 31) ?hr ?_; (case hd => rfl); (case hg => rfl); (case hr => first | (go_simp; done) | (go_simp; rfl)); intro gb371 hg w24 hbox hb; have n0_ := Aside0.mk (blk_below (g := gb365) (o := .cells #[.int .i64 t360, .bool t361, .int .u64 t362, .int .i64 t363] 31 (0, 0)) (by (with_reducible repeat (first | refine blk_drewN ?_ _ | refine blk_drew ?_ | refine blk_alloc ?_ _)); exact BK365.out) hb); have n1_ := Aside0.mk (below_step (by repeat (first | (with_reducible first | exact HB.out | apply below_alloc | apply pw_below_drewN | apply below_drew1 | refine below_set ?_ GE365.out) | exact HB.out)) hb); have n2_ := Aside0.mk (hbox); have n3_ := Aside0.mk ((by rw [hg]; exact (below_size (by repeat (first | (with_reducible first | exact HB.out | apply below_alloc | apply pw_below_drewN | apply below_drew1 | refine below_set ?_ GE365.out) | exact HB.out))) : w.heap.size ≤ gb371)); have n4_ := Aside0.mk ((by rw [hg]; exact (below_size (by repeat (first | (with_reducible first | exact HB.out | apply below_alloc | apply pw_below_drewN | apply below_drew1 | refine below_set ?_ GE365.out) | exact HB.out))) : w.heap.size ≤ gb371)); have n5_ := Aside0.mk ((by rw [hg]; exact Nat.ne_of_lt (blk_lt (g := gb365) (o := .cells #[.int .i64 t360, .bool t361, .int .u64 t362, .int .i64 t363] 31 (0, 0)) (by (with_reducible repeat (first | refine blk_drewN ?_ _ | refine blk_drew ?_ | refine blk_alloc ?_ _)); exact BK365.out)) : gb365 ≠ gb371)); have n6_ := Aside0.mk ((by rw [hg]; exact Nat.ne_of_gt (blk_lt (g := gb365) (o := .cells #[.int .i64 t360, .bool t361, .int .u64 t362, .int .i64 t363] 31 (0, 0)) (by (with_reducible repeat (first | refine blk_drewN ?_ _ | refine blk_drew ?_ | refine blk_alloc ?_ _)); exact BK365.out)) : gb371 ≠ gb365)); clear BK365; clear HB; have BK365 := n0_; have HB := n1_; have BK371 := n2_; have GW371 := n3_; have GE371 := n4_; have NB365_371 := n5_; have NB371_365 := n6_; clear n0_ n1_ n2_ n3_ n4_ n5_ n6_; clear hb hbox hg; have hnb25 := NB371_365.out; have hnc25 := NB365_371.out; have hcz26_0 : w24.cell? ⟨gb371, 0, none⟩ = some (.int .i64 0) := (blk_cell BK371.out 0).trans rfl; have hcz26_1 : w24.cell? ⟨gb371, 1, none⟩ = some (.bool false) := (blk_cell BK371.out 1).trans rfl; have hcz26_2 : w24.cell? ⟨gb371, 2, none⟩ = some (.int .u64 0) := (blk_cell BK371.out 2).trans rfl; have hcz26_3 : w24.cell? ⟨gb371, 3, none⟩ = some (.int .i64 0) := (blk_cell BK371.out 3).trans rfl; have hfz26_0 := blk_frozen BK371.out 0; have hfz26_1 := blk_frozen BK371.out 1; have hfz26_2 := blk_frozen BK371.out 2; have hfz26_3 := blk_frozen BK371.out 3; have hcz27_0 : w24.cell? ⟨gb365, 0, none⟩ = some (.int .i64 t360) := (blk_cell BK365.out 0).trans rfl; have hcz27_1 : w24.cell? ⟨gb365, 1, none⟩ = some (.bool t361) := (blk_cell BK365.out 1).trans rfl; have hcz27_2 : w24.cell? ⟨gb365, 2, none⟩ = some (.int .u64 t362) := (blk_cell BK365.out 2).trans rfl; have hcz27_3 : w24.cell? ⟨gb365, 3, none⟩ = some (.int .i64 t363) := (blk_cell BK365.out 3).trans rfl; have hfz27_0 := blk_frozen BK365.out 0; have hfz27_1 := blk_frozen BK365.out 1; have hfz27_2 := blk_frozen BK365.out 2; have hfz27_3 := blk_frozen BK365.out 3))
        go_ret2
        exact ⟨by first | rfl | (simp [errW_none, errW_some] <;> rfl) | (simp [*, errW_none, errW_some] <;> rfl), by repeat (first | (with_reducible first | exact HB.out | apply below_alloc | apply pw_below_drewN | apply below_drew1 | refine below_set ?_ GE365.out | refine below_set ?_ GE371.out) | exact HB.out)⟩
    · rw [if_neg c8] at H
      have c8b0 : (t360 == t366 && (t361 == t367 && (t362 == t368 && (t363 == t369)))) = false := by simpa using c8
      (try (have c8b1 : decide (t360 = t366 && (t361 == t367 && (t362 == t368 && (t363 == t369)))) = false := by simpa using c8))
      (try (have c8b2 : (t360 == t366 && (t361 == t367 && (t362 == t368 && (t363 == t369)))) = false := by simpa using c8))
      (try (have c8b3 : ¬ (t360 = t366 && (t361 == t367 && (t362 == t368 && (t363 == t369)))) := by simpa using c8))
      clear c8
      simp only [Option.some.injEq, Prod.mk.injEq] at H
      obtain ⟨rfl, rfl⟩ := H
      go_enter Tryd.func11, Tryd.ntmps11
      go_wp2_with (first | ((with_reducible refine gate_callee (f := 12) rfl ?_); refine goesL_ (some 18) rfl rfl Tryd.func12 (by kernel_rfl) rfl #[.int .i64 a0, .int .i64 a1, .int .i64 2, .int .u64 a2] rfl (by (try simp only [List.map_toArray, List.map_cons, List.map_nil]); first | done | rfl | (simp only [List.length_drop, List.length_take]; rfl)) ?_; (with_reducible refine (trans_Turn.calls k a0 a1 2 a2 t358 t359 _ ?side1 A4.out).mono ?_); (case side1 => exact Glob.below HG.out (by repeat (first | (with_reducible first | exact HB.out | apply below_alloc | apply pw_below_drewN | apply below_drew1) | exact HB.out))); rintro e w28 ⟨rfl, hb⟩; refine ⟨_, rfl, ?_⟩; have n0_ := Aside0.mk (below_step (by repeat (first | (with_reducible first | exact HB.out | apply below_alloc | apply pw_below_drewN | apply below_drew1) | exact HB.out)) hb); clear HB; have HB := n0_; clear n0_; (try clear hb); (try clear hb2); (try clear hk); (try clear hi)) | ((with_reducible refine gate_callee (f := 13) rfl ?_); refine goesL_ (some 27) rfl rfl Tryd.func13 (by kernel_rfl) rfl #[.int .i64 a0, .int .u64 a2] rfl (by (try simp only [List.map_toArray, List.map_cons, List.map_nil]); first | done | rfl | (simp only [List.length_drop, List.length_take]; rfl)) ?_; (with_reducible refine (value_Decode.calls a0 a2 t360 t361 t362 t363 t364 _ ?side1 A6.out).mono ?_); (case side1 => exact Glob.below HG.out (by repeat (first | (with_reducible first | exact HB.out | apply below_alloc | apply pw_below_drewN | apply below_drew1) | exact HB.out))); rintro e w29 ⟨rfl, hb⟩; refine ⟨_, rfl, ?_⟩; have n0_ := Aside0.mk (below_step (by repeat (first | (with_reducible first | exact HB.out | apply below_alloc | apply pw_below_drewN | apply below_drew1) | exact HB.out)) hb); clear HB; have HB := n0_; clear n0_; (try clear hb); (try clear hb2); (try clear hk); (try clear hi)) | ((with_reducible refine gate_dst (N := 10) rfl ?_); refine box_event ?hg (N := 10) ?hd (cs := #[.int .i64 0, .bool false, .int .u64 0, .int .i64 0]) (t := 31) ?hr ?_; (case hd => rfl); (case hg => rfl); (case hr => first | (go_simp; done) | (go_simp; rfl)); intro gb365 hg w30 hbox hb; have n0_ := Aside0.mk (below_step (by repeat (first | (with_reducible first | exact HB.out | apply below_alloc | apply pw_below_drewN | apply below_drew1) | exact HB.out)) hb); have n1_ := Aside0.mk (hbox); have n2_ := Aside0.mk ((by rw [hg]; exact (below_size (by repeat (first | (with_reducible first | exact HB.out | apply below_alloc | apply pw_below_drewN | apply below_drew1) | exact HB.out))) : w.heap.size ≤ gb365)); have n3_ := Aside0.mk ((by rw [hg]; exact (below_size (by repeat (first | (with_reducible first | exact HB.out | apply below_alloc | apply pw_below_drewN | apply below_drew1) | exact HB.out))) : w.heap.size ≤ gb365)); clear HB; have HB := n0_; have BK365 := n1_; have GW365 := n2_; have GE365 := n3_; clear n0_ n1_ n2_ n3_; clear hb hbox hg; have hcz31_0 : w30.cell? ⟨gb365, 0, none⟩ = some (.int .i64 0) := (blk_cell BK365.out 0).trans rfl; have hcz31_1 : w30.cell? ⟨gb365, 1, none⟩ = some (.bool false) := (blk_cell BK365.out 1).trans rfl; have hcz31_2 : w30.cell? ⟨gb365, 2, none⟩ = some (.int .u64 0) := (blk_cell BK365.out 2).trans rfl; have hcz31_3 : w30.cell? ⟨gb365, 3, none⟩ = some (.int .i64 0) := (blk_cell BK365.out 3).trans rfl; have hfz31_0 := blk_frozen BK365.out 0; have hfz31_1 := blk_frozen BK365.out 1; have hfz31_2 := blk_frozen BK365.out 2; have hfz31_3 := blk_frozen BK365.out 3) | ((with_reducible refine gate_callee (f := 13) rfl ?_); refine goesL_ (some 33) rfl rfl Tryd.func13 (by kernel_rfl) rfl #[.int .i64 a1, .int .u64 t358] rfl (by (try simp only [List.map_toArray, List.map_cons, List.map_nil]); first | done | rfl | (simp only [List.length_drop, List.length_take]; rfl)) ?_; (with_reducible refine (value_Decode.calls a1 t358 t366 t367 t368 t369 t370 _ ?side1 A7.out).mono ?_); (case side1 => exact Glob.below HG.out (by repeat (first | (with_reducible first | exact HB.out | apply below_alloc | apply pw_below_drewN | apply below_drew1 | refine below_set ?_ GE365.out) | exact HB.out))); rintro e w32 ⟨rfl, hb⟩; refine ⟨_, rfl, ?_⟩; have n0_ := Aside0.mk (blk_below (g := gb365) (o := .cells #[.int .i64 t360, .bool t361, .int .u64 t362, .int .i64 t363] 31 (0, 0)) (by (with_reducible repeat (first | refine blk_drewN ?_ _ | refine blk_drew ?_ | refine blk_alloc ?_ _)); refine blk_put (cs := #[.int .i64 t360, .bool t361, .int .u64 t362, .int .i64 0]) ?_ 3 _ rfl; (with_reducible repeat (first | refine blk_drewN ?_ _ | refine blk_drew ?_ | refine blk_alloc ?_ _)); refine blk_put (cs := #[.int .i64 t360, .bool t361, .int .u64 0, .int .i64 0]) ?_ 2 _ rfl; (with_reducible repeat (first | refine blk_drewN ?_ _ | refine blk_drew ?_ | refine blk_alloc ?_ _)); refine blk_put (cs := #[.int .i64 t360, .bool false, .int .u64 0, .int .i64 0]) ?_ 1 _ rfl; (with_reducible repeat (first | refine blk_drewN ?_ _ | refine blk_drew ?_ | refine blk_alloc ?_ _)); refine blk_put (cs := #[.int .i64 0, .bool false, .int .u64 0, .int .i64 0]) ?_ 0 _ rfl; (with_reducible repeat (first | refine blk_drewN ?_ _ | refine blk_drew ?_ | refine blk_alloc ?_ _)); exact BK365.out) hb); have n1_ := Aside0.mk (below_step (by repeat (first | (with_reducible first | exact HB.out | apply below_alloc | apply pw_below_drewN | apply below_drew1 | refine below_set ?_ GE365.out) | exact HB.out)) hb); clear BK365; clear HB; have BK365 := n0_; have HB := n1_; clear n0_ n1_; (try clear hb); (try clear hb2); (try clear hk); (try clear hi)) | ((with_reducible refine gate_dst (N := 12) rfl ?_); refine box_event ?hg (N := 12) ?hd (cs := #[.int .i64 0, .bool false, .int .u64 0, .int .i64 0]) (t := 31) ?hr ?_; (case hd => rfl); (case hg => rfl); (case hr => first | (go_simp; done) | (go_simp; rfl)); intro gb371 hg w33 hbox hb; have n0_ := Aside0.mk (blk_below (g := gb365) (o := .cells #[.int .i64 t360, .bool t361, .int .u64 t362, .int .i64 t363] 31 (0, 0)) (by (with_reducible repeat (first | refine blk_drewN ?_ _ | refine blk_drew ?_ | refine blk_alloc ?_ _)); exact BK365.out) hb); have n1_ := Aside0.mk (below_step (by repeat (first | (with_reducible first | exact HB.out | apply below_alloc | apply pw_below_drewN | apply below_drew1 | refine below_set ?_ GE365.out) | exact HB.out)) hb); have n2_ := Aside0.mk (hbox); have n3_ := Aside0.mk ((by rw [hg]; exact (below_size (by repeat (first | (with_reducible first | exact HB.out | apply below_alloc | apply pw_below_drewN | apply below_drew1 | refine below_set ?_ GE365.out) | exact HB.out))) : w.heap.size ≤ gb371)); have n4_ := Aside0.mk ((by rw [hg]; exact (below_size (by repeat (first | (with_reducible first | exact HB.out | apply below_alloc | apply pw_below_drewN | apply below_drew1 | refine below_set ?_ GE365.out) | exact HB.out))) : w.heap.size ≤ gb371)); have n5_ := Aside0.mk ((by rw [hg]; exact Nat.ne_of_lt (blk_lt (g := gb365) (o := .cells #[.int .i64 t360, .bool t361, .int .u64 t362, .int .i64 t363] 31 (0, 0)) (by (with_reducible repeat (first | refine blk_drewN ?_ _ | refine blk_drew ?_ | refine blk_alloc ?_ _)); exact BK365.out)) : gb365 ≠ gb371)); have n6_ := Aside0.mk ((by rw [hg]; exact Nat.ne_of_gt (blk_lt (g := gb365) (o := .cells #[.int .i64 t360, .bool t361, .int .u64 t362, .int .i64 t363] 31 (0, 0)) (by (with_reducible repeat (first | refine blk_drewN ?_ _ | refine blk_drew ?_ | refine blk_alloc ?_ _)); exact BK365.out)) : gb371 ≠ gb365)); clear BK365; clear HB; have BK365 := n0_; have HB := n1_; have BK371 := n2_; have GW371 := n3_; have GE371 := n4_; have NB365_371 := n5_; have NB371_365 := n6_; clear n0_ n1_ n2_ n3_ n4_ n5_ n6_; clear hb hbox hg; have hnb34 := NB371_365.out; have hnc34 := NB365_371.out; have hcz35_0 : w33.cell? ⟨gb371, 0, none⟩ = some (.int .i64 0) := (blk_cell BK371.out 0).trans rfl; have hcz35_1 : w33.cell? ⟨gb371, 1, none⟩ = some (.bool false) := (blk_cell BK371.out 1).trans rfl; have hcz35_2 : w33.cell? ⟨gb371, 2, none⟩ = some (.int .u64 0) := (blk_cell BK371.out 2).trans rfl; have hcz35_3 : w33.cell? ⟨gb371, 3, none⟩ = some (.int .i64 0) := (blk_cell BK371.out 3).trans rfl; have hfz35_0 := blk_frozen BK371.out 0; have hfz35_1 := blk_frozen BK371.out 1; have hfz35_2 := blk_frozen BK371.out 2; have hfz35_3 := blk_frozen BK371.out 3; have hcz36_0 : w33.cell? ⟨gb365, 0, none⟩ = some (.int .i64 t360) := (blk_cell BK365.out 0).trans rfl; have hcz36_1 : w33.cell? ⟨gb365, 1, none⟩ = some (.bool t361) := (blk_cell BK365.out 1).trans rfl; have hcz36_2 : w33.cell? ⟨gb365, 2, none⟩ = some (.int .u64 t362) := (blk_cell BK365.out 2).trans rfl; have hcz36_3 : w33.cell? ⟨gb365, 3, none⟩ = some (.int .i64 t363) := (blk_cell BK365.out 3).trans rfl; have hfz36_0 := blk_frozen BK365.out 0; have hfz36_1 := blk_frozen BK365.out 1; have hfz36_2 := blk_frozen BK365.out 2; have hfz36_3 := blk_frozen BK365.out 3))
      go_ret2
      exact ⟨by first | rfl | (simp [errW_none, errW_some] <;> rfl) | (simp [*, errW_none, errW_some] <;> rfl), by repeat (first | (with_reducible first | exact HB.out | apply below_alloc | apply pw_below_drewN | apply below_drew1 | refine below_set ?_ GE365.out | refine below_set ?_ GE371.out) | exact HB.out)⟩
  · rw [if_neg c5] at H
    have c5b0 : (t359 == 0) = false := beq_eq_false_iff_ne.mpr c5
    have c5b1 : (t359 != 0) = true := bne_iff_ne.mpr c5
    simp only [Option.some.injEq, Prod.mk.injEq] at H
    obtain ⟨rfl, rfl⟩ := H
    go_enter Tryd.func11, Tryd.ntmps11
    go_wp2_with (first | ((with_reducible refine gate_callee (f := 12) rfl ?_); refine goesL_ (some 18) rfl rfl Tryd.func12 (by kernel_rfl) rfl #[.int .i64 a0, .int .i64 a1, .int .i64 2, .int .u64 a2] rfl (by (try simp only [List.map_toArray, List.map_cons, List.map_nil]); first | done | rfl | (simp only [List.length_drop, List.length_take]; rfl)) ?_; (with_reducible refine (trans_Turn.calls k a0 a1 2 a2 t358 t359 _ ?side1 A4.out).mono ?_); (case side1 => exact Glob.below HG.out (by repeat (first | (with_reducible first | exact HB.out | apply below_alloc | apply pw_below_drewN | apply below_drew1) | exact HB.out))); rintro e w37 ⟨rfl, hb⟩; refine ⟨_, rfl, ?_⟩; have n0_ := Aside0.mk (below_step (by repeat (first | (with_reducible first | exact HB.out | apply below_alloc | apply pw_below_drewN | apply below_drew1) | exact HB.out)) hb); clear HB; have HB := n0_; clear n0_; (try clear hb); (try clear hb2); (try clear hk); (try clear hi)))
    go_ret2
    exact ⟨by first | rfl | (simp [errW_none, errW_some] <;> rfl) | (simp [*, errW_none, errW_some] <;> rfl), by repeat (first | (with_reducible first | exact HB.out | apply below_alloc | apply pw_below_drewN | apply below_drew1) | exact HB.out)⟩

end Go.Proofs.YtnbkjlebphmpnaaDoor.Pr
