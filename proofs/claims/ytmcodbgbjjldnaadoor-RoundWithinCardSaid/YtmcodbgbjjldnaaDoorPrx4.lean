import Derived.Test.YtmcodbgbjjldnaaDoorPrx0
import Derived.Test.YtmcodbgbjjldnaaDoorPrx3
namespace Go.Proofs.YtmcodbgbjjldnaaDoor.Pr
open Go.RowKit Go.Proofs.YtmcodbgbjjldnaaDoorW.PrintWords Go.Proofs.YtmcodbgbjjldnaaDoorW.PrintLast Go.Proofs.YtmcodbgbjjldnaaDoorW.PrintMore
attribute [local go_sem] max2_int min2_int max_two min_two max_three min_three max_four min_four   -- for this text's walks alone
set_option linter.unusedVariables false
set_option linter.unusedSimpArgs false

def round_size.f (a0 : Int) (a1 : Int) : Option (Bool × List Int × Int × Int) := if a0 = 0 then ((exact_Of.f 1 false a0 a1).bind fun bt247 => (some (bt247.1, bt247.2.1, bt247.2.2.1, bt247.2.2.2.1))) else ((exact_Of.f 2 false a0 a1).bind fun bt255 => (some (bt255.1, bt255.2.1, bt255.2.2.1, bt255.2.2.2.1)))
set_option maxHeartbeats 8000000 in
set_option maxRecDepth 100000 in
theorem round_size.calls (a0 : Int) (a1 : Int) (r1 : Bool) (r2 : List Int) (r3 : Int) (r4 : Int) (w : World) (h : round_size.f a0 a1 = some (r1, r2, r3, r4)) :
    Calls Tryd.prog 73 #[.int .u64 a0, .int .i64 a1] w fun e w' => ∃ v1_ : Value, e = .returned (.agg #[.bool r1, v1_, .int .i64 r3, .int .i64 r4]) ∧ Kd.V (Kd.int .u64) 28 w' w.heap.size (fun k_ => (w.heap.size ≤ k_)) v1_ r2 ∧ Below w.heap.size w w' := by
  have hu25 := Tryd.underlying25
  have hu50 := Tryd.underlying50
  have HB := Aside0.mk (Below.refl w.heap.size w)
  have H : (if a0 = 0 then ((exact_Of.f 1 false a0 a1).bind fun bt247 => (some (bt247.1, bt247.2.1, bt247.2.2.1, bt247.2.2.2.1))) else ((exact_Of.f 2 false a0 a1).bind fun bt255 => (some (bt255.1, bt255.2.1, bt255.2.2.1, bt255.2.2.2.1)))) = some (r1, r2, r3, r4) := h
  clear h
  by_cases c3 : a0 = 0
  · rw [if_pos c3] at H
    have c3b0 : (a0 == 0) = true := beq_iff_eq.mpr c3
    have c3b1 : (a0 != 0) = false := bne_eq_false_iff_eq.mpr c3
    clear c3
    replace H := Option.bind_eq_some_iff.mp H
    obtain ⟨⟨t247, t248, t251, t252, t253⟩, A40, H⟩ := H
    replace H : (some (t247, t248, t251, t252)) = some (r1, r2, r3, r4) := H
    have A4 := Aside0.mk A40
    clear A40
    simp only [Option.some.injEq, Prod.mk.injEq] at H
    obtain ⟨rfl, rfl, rfl, rfl⟩ := H
    go_enter Tryd.func73, Tryd.ntmps73
    go_wp2_with (first | ((with_reducible refine gate_dst (N := 4) rfl ?_); refine box_event ?hg (N := 4) ?hd (cs := #[.bool false, .slice none 0 0, .int .i64 0, .int .i64 0]) (t := 25) ?hr ?_; (case hd => rfl); (case hg => rfl); (case hr => first | (go_simp; done) | (go_simp; rfl)); intro gb246 hg w5 hbox hb; have n0_ := Aside0.mk (below_step (by repeat (first | (with_reducible first | exact HB.out | apply below_alloc | apply pw_below_drewN | apply below_drew1) | exact HB.out)) hb); have n1_ := Aside0.mk (hbox); have n2_ := Aside0.mk ((by rw [hg]; exact (below_size (by repeat (first | (with_reducible first | exact HB.out | apply below_alloc | apply pw_below_drewN | apply below_drew1) | exact HB.out))) : w.heap.size ≤ gb246)); have n3_ := Aside0.mk ((by rw [hg]; exact (below_size (by repeat (first | (with_reducible first | exact HB.out | apply below_alloc | apply pw_below_drewN | apply below_drew1) | exact HB.out))) : w.heap.size ≤ gb246)); clear HB; have HB := n0_; have BK246 := n1_; have GW246 := n2_; have GE246 := n3_; clear n0_ n1_ n2_ n3_; clear hb hbox hg) | ((with_reducible refine gate_callee (f := 21) rfl ?_); refine goesL_ (some 15) rfl rfl Tryd.func21 (by kernel_rfl) rfl #[.agg #[.int .i64 1, .bool false, .int .u64 a0, .int .i64 a1]] rfl (by (try simp only [List.map_toArray, List.map_cons, List.map_nil]); first | done | rfl | (simp only [List.length_drop, List.length_take]; rfl)) ?_; (with_reducible refine (exact_Of.calls 1 false a0 a1 t247 t248 t251 t252 t253 _ A4.out).mono ?_); rintro e w6 ⟨v249, rfl, ho0, hb⟩; refine ⟨_, rfl, ?_⟩; have n0_ := Aside0.mk (Kd.V_lower (Kd.V_mono (ok' := fun k_ => (w.heap.size ≤ k_) ∧ k_ ≠ gb246) ho0 (fun k_ hk_ => ⟨(Nat.le_trans (below_size (by repeat (first | (with_reducible first | exact HB.out | apply below_alloc | apply pw_below_drewN | apply below_drew1 | refine below_set ?_ GE246.out) | exact HB.out))) hk_), (Kd.freshB (g := gb246) (o := .cells #[.bool false, .slice none 0 0, .int .i64 0, .int .i64 0] 25 (0, 0)) (by (with_reducible repeat (first | refine blk_drewN ?_ _ | refine blk_drew ?_ | refine blk_alloc ?_ _)); exact BK246.out) k_ hk_)⟩)) (below_size (by repeat (first | (with_reducible first | exact HB.out | apply below_alloc | apply pw_below_drewN | apply below_drew1 | refine below_set ?_ GE246.out) | exact HB.out)))); have n1_ := Aside0.mk (blk_below (g := gb246) (o := .cells #[.bool false, .slice none 0 0, .int .i64 0, .int .i64 0] 25 (0, 0)) (by (with_reducible repeat (first | refine blk_drewN ?_ _ | refine blk_drew ?_ | refine blk_alloc ?_ _)); exact BK246.out) hb); have n2_ := Aside0.mk (below_step (by repeat (first | (with_reducible first | exact HB.out | apply below_alloc | apply pw_below_drewN | apply below_drew1 | refine below_set ?_ GE246.out) | exact HB.out)) hb); clear BK246; clear HB; have HO250 := n0_; have BK246 := n1_; have HB := n2_; clear n0_ n1_ n2_; (try clear hb); (try clear hb2); (try clear hk); (try clear hi); (try clear ho0)) | ((with_reducible refine gate_dst (N := 6) rfl ?_); refine box_event ?hg (N := 6) ?hd (cs := #[.bool false, .slice none 0 0, .int .i64 0, .int .i64 0]) (t := 25) ?hr ?_; (case hd => rfl); (case hg => rfl); (case hr => first | (go_simp; done) | (go_simp; rfl)); intro gb254 hg w7 hbox hb; have n0_ := Aside0.mk (Kd.V_below (Kd.V_elderB (by (with_reducible repeat (first | apply Kd.V_alloc | apply Kd.V_drewN | apply Kd.V_drew)); exact HO250.out) gb254 (Nat.le_of_eq hg.symm)) hb); have n1_ := Aside0.mk (blk_below (g := gb246) (o := .cells #[.bool false, .slice none 0 0, .int .i64 0, .int .i64 0] 25 (0, 0)) (by (with_reducible repeat (first | refine blk_drewN ?_ _ | refine blk_drew ?_ | refine blk_alloc ?_ _)); exact BK246.out) hb); have n2_ := Aside0.mk (below_step (by repeat (first | (with_reducible first | exact HB.out | apply below_alloc | apply pw_below_drewN | apply below_drew1 | refine below_set ?_ GE246.out) | exact HB.out)) hb); have n3_ := Aside0.mk (hbox); have n4_ := Aside0.mk ((by rw [hg]; exact (below_size (by repeat (first | (with_reducible first | exact HB.out | apply below_alloc | apply pw_below_drewN | apply below_drew1 | refine below_set ?_ GE246.out) | exact HB.out))) : w.heap.size ≤ gb254)); have n5_ := Aside0.mk ((by rw [hg]; exact (below_size (by repeat (first | (with_reducible first | exact HB.out | apply below_alloc | apply pw_below_drewN | apply below_drew1 | refine below_set ?_ GE246.out) | exact HB.out))) : w.heap.size ≤ gb254)); have n6_ := Aside0.mk ((by rw [hg]; exact Nat.ne_of_lt (blk_lt (g := gb246) (o := .cells #[.bool false, .slice none 0 0, .int .i64 0, .int .i64 0] 25 (0, 0)) (by (with_reducible repeat (first | refine blk_drewN ?_ _ | refine blk_drew ?_ | refine blk_alloc ?_ _)); exact BK246.out)) : gb246 ≠ gb254)); have n7_ := Aside0.mk ((by rw [hg]; exact Nat.ne_of_gt (blk_lt (g := gb246) (o := .cells #[.bool false, .slice none 0 0, .int .i64 0, .int .i64 0] 25 (0, 0)) (by (with_reducible repeat (first | refine blk_drewN ?_ _ | refine blk_drew ?_ | refine blk_alloc ?_ _)); exact BK246.out)) : gb254 ≠ gb246)); clear HO250; clear BK246; clear HB; have HO250 := n0_; have BK246 := n1_; have HB := n2_; have BK254 := n3_; have GW254 := n4_; have GE254 := n5_; have NB246_254 := n6_; have NB254_246 := n7_; clear n0_ n1_ n2_ n3_ n4_ n5_ n6_ n7_; clear hb hbox hg; have hnb8 := NB254_246.out; have hnc8 := NB246_254.out; have hcz9_0 : w7.cell? ⟨gb254, 0, none⟩ = some (.bool false) := (blk_cell BK254.out 0).trans rfl; have hcz9_1 : w7.cell? ⟨gb254, 1, none⟩ = some (.slice none 0 0) := (blk_cell BK254.out 1).trans rfl; have hcz9_2 : w7.cell? ⟨gb254, 2, none⟩ = some (.int .i64 0) := (blk_cell BK254.out 2).trans rfl; have hcz9_3 : w7.cell? ⟨gb254, 3, none⟩ = some (.int .i64 0) := (blk_cell BK254.out 3).trans rfl; have hfz9_0 := blk_frozen BK254.out 0; have hfz9_1 := blk_frozen BK254.out 1; have hfz9_2 := blk_frozen BK254.out 2; have hfz9_3 := blk_frozen BK254.out 3; obtain ⟨Ao10, co10, eo10⟩ := Kd.V_slice HO250.out; subst eo10; have hcz11_0 : w7.cell? ⟨gb246, 0, none⟩ = some (.bool false) := (blk_cell BK246.out 0).trans rfl; have hcz11_1 : w7.cell? ⟨gb246, 1, none⟩ = some (.slice none 0 0) := (blk_cell BK246.out 1).trans rfl; have hcz11_2 : w7.cell? ⟨gb246, 2, none⟩ = some (.int .i64 0) := (blk_cell BK246.out 2).trans rfl; have hcz11_3 : w7.cell? ⟨gb246, 3, none⟩ = some (.int .i64 0) := (blk_cell BK246.out 3).trans rfl; have hfz11_0 := blk_frozen BK246.out 0; have hfz11_1 := blk_frozen BK246.out 1; have hfz11_2 := blk_frozen BK246.out 2; have hfz11_3 := blk_frozen BK246.out 3))
    refine bodyPost_ret (results_cell_row rfl _ _ gb246 25 #[.bool t247, .slice Ao10 t248.length co10, .int .i64 t251, .int .i64 t252] (0, 0) _ rfl (by (with_reducible repeat (first | refine blk_drewN ?_ _ | refine blk_drew ?_ | refine blk_alloc ?_ _)); refine blk_put (cs := #[.bool t247, .slice Ao10 t248.length co10, .int .i64 t251, .int .i64 0]) ?_ 3 _ rfl; (with_reducible repeat (first | refine blk_drewN ?_ _ | refine blk_drew ?_ | refine blk_alloc ?_ _)); refine blk_put (cs := #[.bool t247, .slice Ao10 t248.length co10, .int .i64 0, .int .i64 0]) ?_ 2 _ rfl; (with_reducible repeat (first | refine blk_drewN ?_ _ | refine blk_drew ?_ | refine blk_alloc ?_ _)); refine blk_put (cs := #[.bool t247, .slice none 0 0, .int .i64 0, .int .i64 0]) ?_ 1 _ rfl; (with_reducible repeat (first | refine blk_drewN ?_ _ | refine blk_drew ?_ | refine blk_alloc ?_ _)); refine blk_put (cs := #[.bool false, .slice none 0 0, .int .i64 0, .int .i64 0]) ?_ 0 _ rfl; (with_reducible repeat (first | refine blk_drewN ?_ _ | refine blk_drew ?_ | refine blk_alloc ?_ _)); refine blk_far ?_ NB246_254.out _; (with_reducible repeat (first | refine blk_drewN ?_ _ | refine blk_drew ?_ | refine blk_alloc ?_ _)); refine blk_far ?_ NB246_254.out _; (with_reducible repeat (first | refine blk_drewN ?_ _ | refine blk_drew ?_ | refine blk_alloc ?_ _)); refine blk_far ?_ NB246_254.out _; (with_reducible repeat (first | refine blk_drewN ?_ _ | refine blk_drew ?_ | refine blk_alloc ?_ _)); refine blk_far ?_ NB246_254.out _; (with_reducible repeat (first | refine blk_drewN ?_ _ | refine blk_drew ?_ | refine blk_alloc ?_ _)); exact BK246.out) Tryd.underlying25 rfl (by kernel_rfl)) rfl ?_
    exact ⟨_, by first | rfl | (simp [errW_none, errW_some] <;> rfl) | (simp [*, errW_none, errW_some] <;> rfl), by (with_reducible repeat (first | apply Kd.V_alloc | apply Kd.V_drewN | apply Kd.V_drew)); exact Kd.V_mono (Kd.V_far (p := ⟨gb246, 3, none⟩) (Kd.V_far (p := ⟨gb246, 2, none⟩) (Kd.V_far (p := ⟨gb246, 1, none⟩) (Kd.V_far (p := ⟨gb246, 0, none⟩) (Kd.V_far (p := ⟨gb254, 3, none⟩) (Kd.V_far (p := ⟨gb254, 2, none⟩) (Kd.V_far (p := ⟨gb254, 1, none⟩) (Kd.V_far (p := ⟨gb254, 0, none⟩) (Kd.V_mono (Kd.V_mono HO250.out (fun k_ hk => (⟨hk, hk.2⟩ : _ ∧ k_ ≠ gb254))) (fun k_ hk => (⟨hk, hk.1.1.2⟩ : _ ∧ k_ ≠ gb246))) (fun _ hk => hk.1.2) (.bool t247)) (fun _ hk => hk.1.2) (.slice Ao10 t248.length co10)) (fun _ hk => hk.1.2) (.int .i64 t251)) (fun _ hk => hk.1.2) (.int .i64 t252)) (fun _ hk => hk.2) (.bool t247)) (fun _ hk => hk.2) (.slice Ao10 t248.length co10)) (fun _ hk => hk.2) (.int .i64 t251)) (fun _ hk => hk.2) (.int .i64 t252)) (fun _ hk => hk.1.1.1.1), by repeat (first | (with_reducible first | exact HB.out | apply below_alloc | apply pw_below_drewN | apply below_drew1 | refine below_set ?_ GE246.out | refine below_set ?_ GE254.out) | exact HB.out)⟩
  · rw [if_neg c3] at H
    have c3b0 : (a0 == 0) = false := beq_eq_false_iff_ne.mpr c3
    have c3b1 : (a0 != 0) = true := bne_iff_ne.mpr c3
    replace H := Option.bind_eq_some_iff.mp H
    obtain ⟨⟨t255, t256, t259, t260, t261⟩, A120, H⟩ := H
    replace H : (some (t255, t256, t259, t260)) = some (r1, r2, r3, r4) := H
    have A12 := Aside0.mk A120
    clear A120
    simp only [Option.some.injEq, Prod.mk.injEq] at H
    obtain ⟨rfl, rfl, rfl, rfl⟩ := H
    go_enter Tryd.func73, Tryd.ntmps73
    go_wp2_with (first | ((with_reducible refine gate_dst (N := 4) rfl ?_); refine box_event ?hg (N := 4) ?hd (cs := #[.bool false, .slice none 0 0, .int .i64 0, .int .i64 0]) (t := 25) ?hr ?_; (case hd => rfl); (case hg => rfl); (case hr => first | (go_simp; done) | (go_simp; rfl)); intro gb246 hg w13 hbox hb; have n0_ := Aside0.mk (below_step (by repeat (first | (with_reducible first | exact HB.out | apply below_alloc | apply pw_below_drewN | apply below_drew1) | exact HB.out)) hb); have n1_ := Aside0.mk (hbox); have n2_ := Aside0.mk ((by rw [hg]; exact (below_size (by repeat (first | (with_reducible first | exact HB.out | apply below_alloc | apply pw_below_drewN | apply below_drew1) | exact HB.out))) : w.heap.size ≤ gb246)); have n3_ := Aside0.mk ((by rw [hg]; exact (below_size (by repeat (first | (with_reducible first | exact HB.out | apply below_alloc | apply pw_below_drewN | apply below_drew1) | exact HB.out))) : w.heap.size ≤ gb246)); clear HB; have HB := n0_; have BK246 := n1_; have GW246 := n2_; have GE246 := n3_; clear n0_ n1_ n2_ n3_; clear hb hbox hg) | ((with_reducible refine gate_callee (f := 21) rfl ?_); refine goesL_ (some 15) rfl rfl Tryd.func21 (by kernel_rfl) rfl #[.agg #[.int .i64 2, .bool false, .int .u64 a0, .int .i64 a1]] rfl (by (try simp only [List.map_toArray, List.map_cons, List.map_nil]); first | done | rfl | (simp only [List.length_drop, List.length_take]; rfl)) ?_; (with_reducible refine (exact_Of.calls 2 false a0 a1 t255 t256 t259 t260 t261 _ A12.out).mono ?_); rintro e w14 ⟨v257, rfl, ho0, hb⟩; refine ⟨_, rfl, ?_⟩; have n0_ := Aside0.mk (Kd.V_lower (Kd.V_mono (ok' := fun k_ => (w.heap.size ≤ k_) ∧ k_ ≠ gb246) ho0 (fun k_ hk_ => ⟨(Nat.le_trans (below_size (by repeat (first | (with_reducible first | exact HB.out | apply below_alloc | apply pw_below_drewN | apply below_drew1 | refine below_set ?_ GE246.out) | exact HB.out))) hk_), (Kd.freshB (g := gb246) (o := .cells #[.bool false, .slice none 0 0, .int .i64 0, .int .i64 0] 25 (0, 0)) (by (with_reducible repeat (first | refine blk_drewN ?_ _ | refine blk_drew ?_ | refine blk_alloc ?_ _)); exact BK246.out) k_ hk_)⟩)) (below_size (by repeat (first | (with_reducible first | exact HB.out | apply below_alloc | apply pw_below_drewN | apply below_drew1 | refine below_set ?_ GE246.out) | exact HB.out)))); have n1_ := Aside0.mk (blk_below (g := gb246) (o := .cells #[.bool false, .slice none 0 0, .int .i64 0, .int .i64 0] 25 (0, 0)) (by (with_reducible repeat (first | refine blk_drewN ?_ _ | refine blk_drew ?_ | refine blk_alloc ?_ _)); exact BK246.out) hb); have n2_ := Aside0.mk (below_step (by repeat (first | (with_reducible first | exact HB.out | apply below_alloc | apply pw_below_drewN | apply below_drew1 | refine below_set ?_ GE246.out) | exact HB.out)) hb); clear BK246; clear HB; have HO258 := n0_; have BK246 := n1_; have HB := n2_; clear n0_ n1_ n2_; (try clear hb); (try clear hb2); (try clear hk); (try clear hi); (try clear ho0)) | ((with_reducible refine gate_dst (N := 6) rfl ?_); refine box_event ?hg (N := 6) ?hd (cs := #[.bool false, .slice none 0 0, .int .i64 0, .int .i64 0]) (t := 25) ?hr ?_; (case hd => rfl); (case hg => rfl); (case hr => first | (go_simp; done) | (go_simp; rfl)); intro gb262 hg w15 hbox hb; have n0_ := Aside0.mk (Kd.V_below (Kd.V_elderB (by (with_reducible repeat (first | apply Kd.V_alloc | apply Kd.V_drewN | apply Kd.V_drew)); exact HO258.out) gb262 (Nat.le_of_eq hg.symm)) hb); have n1_ := Aside0.mk (blk_below (g := gb246) (o := .cells #[.bool false, .slice none 0 0, .int .i64 0, .int .i64 0] 25 (0, 0)) (by (with_reducible repeat (first | refine blk_drewN ?_ _ | refine blk_drew ?_ | refine blk_alloc ?_ _)); exact BK246.out) hb); have n2_ := Aside0.mk (below_step (by repeat (first | (with_reducible first | exact HB.out | apply below_alloc | apply pw_below_drewN | apply below_drew1 | refine below_set ?_ GE246.out) | exact HB.out)) hb); have n3_ := Aside0.mk (hbox); have n4_ := Aside0.mk ((by rw [hg]; exact (below_size (by repeat (first | (with_reducible first | exact HB.out | apply below_alloc | apply pw_below_drewN | apply below_drew1 | refine below_set ?_ GE246.out) | exact HB.out))) : w.heap.size ≤ gb262)); have n5_ := Aside0.mk ((by rw [hg]; exact (below_size (by repeat (first | (with_reducible first | exact HB.out | apply below_alloc | apply pw_below_drewN | apply below_drew1 | refine below_set ?_ GE246.out) | exact HB.out))) : w.heap.size ≤ gb262)); have n6_ := Aside0.mk ((by rw [hg]; exact Nat.ne_of_lt (blk_lt (g := gb246) (o := .cells #[.bool false, .slice none 0 0, .int .i64 0, .int .i64 0] 25 (0, 0)) (by (with_reducible repeat (first | refine blk_drewN ?_ _ | refine blk_drew ?_ | refine blk_alloc ?_ _)); exact BK246.out)) : gb246 ≠ gb262)); have n7_ := Aside0.mk ((by rw [hg]; exact Nat.ne_of_gt (blk_lt (g := gb246) (o := .cells #[.bool false, .slice none 0 0, .int .i64 0, .int .i64 0] 25 (0, 0)) (by (with_reducible repeat (first | refine blk_drewN ?_ _ | refine blk_drew ?_ | refine blk_alloc ?_ _)); exact BK246.out)) : gb262 ≠ gb246)); clear HO258; clear BK246; clear HB; have HO258 := n0_; have BK246 := n1_; have HB := n2_; have BK262 := n3_; have GW262 := n4_; have GE262 := n5_; have NB246_262 := n6_; have NB262_246 := n7_; clear n0_ n1_ n2_ n3_ n4_ n5_ n6_ n7_; clear hb hbox hg; have hnb16 := NB262_246.out; have hnc16 := NB246_262.out; have hcz17_0 : w15.cell? ⟨gb262, 0, none⟩ = some (.bool false) := (blk_cell BK262.out 0).trans rfl; have hcz17_1 : w15.cell? ⟨gb262, 1, none⟩ = some (.slice none 0 0) := (blk_cell BK262.out 1).trans rfl; have hcz17_2 : w15.cell? ⟨gb262, 2, none⟩ = some (.int .i64 0) := (blk_cell BK262.out 2).trans rfl; have hcz17_3 : w15.cell? ⟨gb262, 3, none⟩ = some (.int .i64 0) := (blk_cell BK262.out 3).trans rfl; have hfz17_0 := blk_frozen BK262.out 0; have hfz17_1 := blk_frozen BK262.out 1; have hfz17_2 := blk_frozen BK262.out 2; have hfz17_3 := blk_frozen BK262.out 3; obtain ⟨Ao18, co18, eo18⟩ := Kd.V_slice HO258.out; subst eo18; have hcz19_0 : w15.cell? ⟨gb246, 0, none⟩ = some (.bool false) := (blk_cell BK246.out 0).trans rfl; have hcz19_1 : w15.cell? ⟨gb246, 1, none⟩ = some (.slice none 0 0) := (blk_cell BK246.out 1).trans rfl; have hcz19_2 : w15.cell? ⟨gb246, 2, none⟩ = some (.int .i64 0) := (blk_cell BK246.out 2).trans rfl; have hcz19_3 : w15.cell? ⟨gb246, 3, none⟩ = some (.int .i64 0) := (blk_cell BK246.out 3).trans rfl; have hfz19_0 := blk_frozen BK246.out 0; have hfz19_1 := blk_frozen BK246.out 1; have hfz19_2 := blk_frozen BK246.out 2; have hfz19_3 := blk_frozen BK246.out 3))
    refine bodyPost_ret (results_cell_row rfl _ _ gb246 25 #[.bool t255, .slice Ao18 t256.length co18, .int .i64 t259, .int .i64 t260] (0, 0) _ rfl (by (with_reducible repeat (first | refine blk_drewN ?_ _ | refine blk_drew ?_ | refine blk_alloc ?_ _)); refine blk_put (cs := #[.bool t255, .slice Ao18 t256.length co18, .int .i64 t259, .int .i64 0]) ?_ 3 _ rfl; (with_reducible repeat (first | refine blk_drewN ?_ _ | refine blk_drew ?_ | refine blk_alloc ?_ _)); refine blk_put (cs := #[.bool t255, .slice Ao18 t256.length co18, .int .i64 0, .int .i64 0]) ?_ 2 _ rfl; (with_reducible repeat (first | refine blk_drewN ?_ _ | refine blk_drew ?_ | refine blk_alloc ?_ _)); refine blk_put (cs := #[.bool t255, .slice none 0 0, .int .i64 0, .int .i64 0]) ?_ 1 _ rfl; (with_reducible repeat (first | refine blk_drewN ?_ _ | refine blk_drew ?_ | refine blk_alloc ?_ _)); refine blk_put (cs := #[.bool false, .slice none 0 0, .int .i64 0, .int .i64 0]) ?_ 0 _ rfl; (with_reducible repeat (first | refine blk_drewN ?_ _ | refine blk_drew ?_ | refine blk_alloc ?_ _)); refine blk_far ?_ NB246_262.out _; (with_reducible repeat (first | refine blk_drewN ?_ _ | refine blk_drew ?_ | refine blk_alloc ?_ _)); refine blk_far ?_ NB246_262.out _; (with_reducible repeat (first | refine blk_drewN ?_ _ | refine blk_drew ?_ | refine blk_alloc ?_ _)); refine blk_far ?_ NB246_262.out _; (with_reducible repeat (first | refine blk_drewN ?_ _ | refine blk_drew ?_ | refine blk_alloc ?_ _)); refine blk_far ?_ NB246_262.out _; (with_reducible repeat (first | refine blk_drewN ?_ _ | refine blk_drew ?_ | refine blk_alloc ?_ _)); exact BK246.out) Tryd.underlying25 rfl (by kernel_rfl)) rfl ?_
    exact ⟨_, by first | rfl | (simp [errW_none, errW_some] <;> rfl) | (simp [*, errW_none, errW_some] <;> rfl), by (with_reducible repeat (first | apply Kd.V_alloc | apply Kd.V_drewN | apply Kd.V_drew)); exact Kd.V_mono (Kd.V_far (p := ⟨gb246, 3, none⟩) (Kd.V_far (p := ⟨gb246, 2, none⟩) (Kd.V_far (p := ⟨gb246, 1, none⟩) (Kd.V_far (p := ⟨gb246, 0, none⟩) (Kd.V_far (p := ⟨gb262, 3, none⟩) (Kd.V_far (p := ⟨gb262, 2, none⟩) (Kd.V_far (p := ⟨gb262, 1, none⟩) (Kd.V_far (p := ⟨gb262, 0, none⟩) (Kd.V_mono (Kd.V_mono HO258.out (fun k_ hk => (⟨hk, hk.2⟩ : _ ∧ k_ ≠ gb262))) (fun k_ hk => (⟨hk, hk.1.1.2⟩ : _ ∧ k_ ≠ gb246))) (fun _ hk => hk.1.2) (.bool t255)) (fun _ hk => hk.1.2) (.slice Ao18 t256.length co18)) (fun _ hk => hk.1.2) (.int .i64 t259)) (fun _ hk => hk.1.2) (.int .i64 t260)) (fun _ hk => hk.2) (.bool t255)) (fun _ hk => hk.2) (.slice Ao18 t256.length co18)) (fun _ hk => hk.2) (.int .i64 t259)) (fun _ hk => hk.2) (.int .i64 t260)) (fun _ hk => hk.1.1.1.1), by repeat (first | (with_reducible first | exact HB.out | apply below_alloc | apply pw_below_drewN | apply below_drew1 | refine below_set ?_ GE246.out | refine below_set ?_ GE262.out) | exact HB.out)⟩

def caliperlaw08_number.f (a0 : Bool) (a1 : Int) (a2 : Int) : Option (Bool × List Int × Int × Int) := some (a0, (([a1] : List Int)), a2, 0)
set_option maxHeartbeats 8000000 in
set_option maxRecDepth 100000 in
theorem caliperlaw08_number.calls (a0 : Bool) (a1 : Int) (a2 : Int) (r1 : Bool) (r2 : List Int) (r3 : Int) (r4 : Int) (w : World) (h : caliperlaw08_number.f a0 a1 a2 = some (r1, r2, r3, r4)) :
    Calls Tryd.prog 31 #[.bool a0, .int .u64 a1, .int .i64 a2] w fun e w' => ∃ v1_ : Value, e = .returned (.agg #[.bool r1, v1_, .int .i64 r3, .int .i64 r4]) ∧ Kd.R (Kd.int .u64) 28 w' w.heap.size (fun _ => True) v1_ r2 ∧ Below w.heap.size w w' := by
  have hu25 := Tryd.underlying25
  have HB := Aside0.mk (Below.refl w.heap.size w)
  have H : (some (a0, (([a1] : List Int)), a2, 0)) = some (r1, r2, r3, r4) := h
  clear h
  obtain ⟨y323, hy323⟩ : ∃ y_ : List Int, y_ = (([a1] : List Int)) := ⟨_, rfl⟩
  replace H : (some (a0, y323, a2, 0)) = some (r1, r2, r3, r4) := by first | (rw [hy323]; with_reducible exact H) | (have H2_ := (Option.bind_some _ _).symm.trans H; rw [hy323]; with_reducible exact H2_) | (have H2_ := (Option.bind_some _ _).symm.trans H; with_reducible exact H2_) | with_reducible exact H | (rw [hy323]; exact H) | exact H
  have Ny323 := Aside0.mk hy323
  clear hy323
  simp only [Option.some.injEq, Prod.mk.injEq] at H
  obtain ⟨rfl, rfl, rfl, rfl⟩ := H
  go_enter Tryd.func31, Tryd.ntmps31
  go_wp2_with (first | ((with_reducible refine gate_dst (N := 6) rfl ?_); refine box_event ?hg (N := 6) ?hd (cs := #[.bool false, .slice none 0 0, .int .i64 0, .int .i64 0]) (t := 25) ?hr ?_; (case hd => rfl); (case hg => rfl); (case hr => first | (go_simp; done) | (go_simp; rfl)); intro gb322 hg w4 hbox hb; have n0_ := Aside0.mk (below_step (by repeat (first | (with_reducible first | exact HB.out | apply below_alloc | apply pw_below_drewN | apply below_drew1) | exact HB.out)) hb); have n1_ := Aside0.mk (hbox); have n2_ := Aside0.mk ((by rw [hg]; exact (below_size (by repeat (first | (with_reducible first | exact HB.out | apply below_alloc | apply pw_below_drewN | apply below_drew1) | exact HB.out))) : w.heap.size ≤ gb322)); have n3_ := Aside0.mk ((by rw [hg]; exact (below_size (by repeat (first | (with_reducible first | exact HB.out | apply below_alloc | apply pw_below_drewN | apply below_drew1) | exact HB.out))) : w.heap.size ≤ gb322)); clear HB; have HB := n0_; have BK322 := n1_; have GW322 := n2_; have GE322 := n3_; clear n0_ n1_ n2_ n3_; clear hb hbox hg) | ((with_reducible refine gate_dst (N := 9) rfl ?_); refine Kd.R_lit (Kd.int .u64) _ 28 ?hg (N := 9) ?hd (xs := ([a1] : List Int)) (inner := [.int .u64 a1]) (ok := fun _ => True) (okp := fun _ => True) ?hr ?hp (fun _ hk => hk) trivial (Below.refl _ _) (Nat.le_refl _) (by simp) ?_; (case hd => rfl); (case hg => rfl); (case hr => first | (go_simp; done) | (go_simp; rfl)); (case hp => exact (Reps.one (show Kd.M (Kd.int .u64) _ _ _ a1 [.int .u64 a1] from rfl) (Reps.none _ _))); intro v324 w5 ho6 hb hg_ hnew_; clear hg_ hnew_; (first | rw [← Ny323.out] at ho6 | (simp only [Int.reduceToNat] at ho6; rw [← Ny323.out] at ho6)); have n0_ := Aside0.mk (Kd.R_lower ho6 (below_size (by repeat (first | (with_reducible first | exact HB.out | apply below_alloc | apply pw_below_drewN | apply below_drew1 | refine below_set ?_ GE322.out) | exact HB.out)))); have n1_ := Aside0.mk (blk_below (g := gb322) (o := .cells #[.bool false, .slice none 0 0, .int .i64 0, .int .i64 0] 25 (0, 0)) (by (with_reducible repeat (first | refine blk_drewN ?_ _ | refine blk_drew ?_ | refine blk_alloc ?_ _)); exact BK322.out) hb); have n2_ := Aside0.mk (below_step (by repeat (first | (with_reducible first | exact HB.out | apply below_alloc | apply pw_below_drewN | apply below_drew1 | refine below_set ?_ GE322.out) | exact HB.out)) hb); clear BK322; clear HB; have HO325 := n0_; have BK322 := n1_; have HB := n2_; clear n0_ n1_ n2_; clear hb ho6; obtain ⟨Ao7, co7, eo7⟩ := Kd.R_slice HO325.out; subst eo7; have hcz8_0 : w5.cell? ⟨gb322, 0, none⟩ = some (.bool false) := (blk_cell BK322.out 0).trans rfl; have hcz8_1 : w5.cell? ⟨gb322, 1, none⟩ = some (.slice none 0 0) := (blk_cell BK322.out 1).trans rfl; have hcz8_2 : w5.cell? ⟨gb322, 2, none⟩ = some (.int .i64 0) := (blk_cell BK322.out 2).trans rfl; have hcz8_3 : w5.cell? ⟨gb322, 3, none⟩ = some (.int .i64 0) := (blk_cell BK322.out 3).trans rfl; have hfz8_0 := blk_frozen BK322.out 0; have hfz8_1 := blk_frozen BK322.out 1; have hfz8_2 := blk_frozen BK322.out 2; have hfz8_3 := blk_frozen BK322.out 3))
  refine bodyPost_ret (results_cell_row rfl _ _ gb322 25 #[.bool a0, .slice Ao7 y323.length co7, .int .i64 a2, .int .i64 0] (0, 0) _ rfl (by (with_reducible repeat (first | refine blk_drewN ?_ _ | refine blk_drew ?_ | refine blk_alloc ?_ _)); refine blk_put (cs := #[.bool a0, .slice Ao7 y323.length co7, .int .i64 a2, .int .i64 0]) ?_ 3 _ rfl; (with_reducible repeat (first | refine blk_drewN ?_ _ | refine blk_drew ?_ | refine blk_alloc ?_ _)); refine blk_put (cs := #[.bool a0, .slice Ao7 y323.length co7, .int .i64 0, .int .i64 0]) ?_ 2 _ rfl; (with_reducible repeat (first | refine blk_drewN ?_ _ | refine blk_drew ?_ | refine blk_alloc ?_ _)); refine blk_put (cs := #[.bool a0, .slice none 0 0, .int .i64 0, .int .i64 0]) ?_ 1 _ rfl; (with_reducible repeat (first | refine blk_drewN ?_ _ | refine blk_drew ?_ | refine blk_alloc ?_ _)); refine blk_put (cs := #[.bool false, .slice none 0 0, .int .i64 0, .int .i64 0]) ?_ 0 _ rfl; (with_reducible repeat (first | refine blk_drewN ?_ _ | refine blk_drew ?_ | refine blk_alloc ?_ _)); exact BK322.out) Tryd.underlying25 rfl (by kernel_rfl)) rfl ?_
  exact ⟨_, by first | rfl | (simp [errW_none, errW_some] <;> rfl) | (simp [*, errW_none, errW_some] <;> rfl), by (with_reducible repeat (first | apply Kd.R_alloc | apply Kd.R_drewN | apply Kd.R_drew)); exact Kd.R_mono (Kd.R_far (p := ⟨gb322, 3, none⟩) (Kd.R_far (p := ⟨gb322, 2, none⟩) (Kd.R_far (p := ⟨gb322, 1, none⟩) (Kd.R_far (p := ⟨gb322, 0, none⟩) (Kd.R_types HO325.out BK322.out (by decide)) (fun _ hk => hk.2) (.bool a0)) (fun _ hk => hk.2) (.slice Ao7 y323.length co7)) (fun _ hk => hk.2) (.int .i64 a2)) (fun _ hk => hk.2) (.int .i64 0)) (fun _ hk => trivial), by repeat (first | (with_reducible first | exact HB.out | apply below_alloc | apply pw_below_drewN | apply below_drew1 | refine below_set ?_ GE322.out) | exact HB.out)⟩

def caliperlaw08_small.l0 : Nat → List Int → Bool → List Int → Int → Int → Option (Bool × List Int × Int × Int)
  | 0, _, _, _, _, _ => none
  | k + 1, x3, x327000, x327001, x327002, x327003 => if (x3.length : Int) > 0 then (if 0 ≤ (wrap64 ((x3.length : Int) - 1)) then (if (wrap64 ((x3.length : Int) - 1)) < (x3.length : Int) then (if (rd x3 (wrap64 ((x3.length : Int) - 1))) = 0 then (if (wrap64 ((x3.length : Int) - 1)) ≤ (x3.length : Int) then (caliperlaw08_small.l0 k (x3.take ((wrap64 ((x3.length : Int) - 1)) : Int).toNat) x327000 x327001 x327002 x327003) else (none)) else (some (x327000, x3, mx (mn x327002 1000) (-1000), mx (mn x327003 1000) (-1000)))) else (none)) else (none)) else (some (x327000, x3, mx (mn x327002 1000) (-1000), mx (mn x327003 1000) (-1000)))
def caliperlaw08_small.f (k : Nat) (a0_0 : Bool) (l0_1 : List Int) (a0_2 : Int) (a0_3 : Int) : Option (Bool × List Int × Int × Int) := if 0 ≤ (mn (l0_1.length : Int) 40) then (if (mn (l0_1.length : Int) 40) ≤ (l0_1.length : Int) then (caliperlaw08_small.l0 k (l0_1.take ((mn (l0_1.length : Int) 40) : Int).toNat) a0_0 l0_1 a0_2 a0_3) else (none)) else (none)
set_option maxHeartbeats 8000000 in
set_option maxRecDepth 100000 in
theorem caliperlaw08_small.calls (k : Nat) (a0_0 : Bool) (P0_1_ : Nat → Prop) (A0_1 : Option Addr) (c0_1 : Nat) (l0_1 : List Int) (a0_2 : Int) (a0_3 : Int) (r1 : Bool) (r2 : List Int) (r3 : Int) (r4 : Int) (w : World) (hs0_1 : Kd.V (Kd.int .u64) 28 w w.heap.size (fun k_ => P0_1_ k_) (.slice A0_1 l0_1.length c0_1) l0_1) (h : caliperlaw08_small.f k a0_0 l0_1 a0_2 a0_3 = some (r1, r2, r3, r4)) :
    Calls Tryd.prog 12 #[.agg #[.bool a0_0, .slice A0_1 l0_1.length c0_1, .int .i64 a0_2, .int .i64 a0_3]] w fun e w' => ∃ v1_ : Value, e = .returned (.agg #[.bool r1, v1_, .int .i64 r3, .int .i64 r4]) ∧ Kd.V (Kd.int .u64) 28 w' w.heap.size (fun k_ => (P0_1_ k_ ∨ w.heap.size ≤ k_)) v1_ r2 ∧ Below w.heap.size w w' := by
  have hu25 := Tryd.underlying25
  have HO0_1 := Aside0.mk (show Kd.V (Kd.int .u64) 28 w w.heap.size (fun k_ => (P0_1_ k_ ∨ w.heap.size ≤ k_)) (.slice A0_1 l0_1.length c0_1) l0_1 from Kd.V_mono hs0_1 (fun k_ hk => .inl hk))
  have HB := Aside0.mk (Below.refl w.heap.size w)
  have H : (if 0 ≤ (mn (l0_1.length : Int) 40) then (if (mn (l0_1.length : Int) 40) ≤ (l0_1.length : Int) then (caliperlaw08_small.l0 k (l0_1.take ((mn (l0_1.length : Int) 40) : Int).toNat) a0_0 l0_1 a0_2 a0_3) else (none)) else (none)) = some (r1, r2, r3, r4) := h
  clear h
  obtain ⟨ji2, hji2⟩ : ∃ j_ : Int, (mn (l0_1.length : Int) 40) = j_ := ⟨_, rfl⟩
  replace H : (if 0 ≤ (ji2) then (if (ji2) ≤ (l0_1.length : Int) then (caliperlaw08_small.l0 k (l0_1.take ((ji2) : Int).toNat) a0_0 l0_1 a0_2 a0_3) else (none)) else (none)) = some (r1, r2, r3, r4) := by first | (rw [hji2] at H; exact H) | (simp only [hji2] at H ⊢; exact H)
  (try (have hji2h : ji2 ≤ 40 := by (rw [← hji2]; unfold mn; (repeat' split) <;> omega)))
  (try (have hji2g : ji2 ≤ 64 := by omega))
  (try (have hji2l : 0 ≤ ji2 := by (rw [← hji2]; unfold mn; (repeat' split) <;> omega)))
  (try (have hji2m : 0 ≤ ji2 := by omega))
  (try (have hji2t : ∀ k_ : Int, Int.tmod ji2 k_ = ji2 % k_ := fun k_ => Int.tmod_eq_emod_of_nonneg (by assumption)))
  have hji2_ : (if 40 < (l0_1.length : Int) then 40 else (l0_1.length : Int)) = ji2 := hji2
  by_cases c3 : 0 ≤ (ji2)
  · rw [if_pos c3] at H
    have c3b0 := eq_true c3
    have c3b1 : decide (0 ≤ (ji2)) = true := decide_eq_true c3
    clear c3
    by_cases c4 : (ji2) ≤ (l0_1.length : Int)
    · rw [if_pos c4] at H
      have c4b0 := eq_true c4
      have c4b1 : decide ((ji2) ≤ (l0_1.length : Int)) = true := decide_eq_true c4
      clear c4
      obtain ⟨y328, hy328⟩ : ∃ y_ : List Int, y_ = (l0_1.take ((ji2) : Int).toNat) := ⟨_, rfl⟩
      replace H : (caliperlaw08_small.l0 k y328 a0_0 l0_1 a0_2 a0_3) = some (r1, r2, r3, r4) := by first | (rw [hy328]; with_reducible exact H) | (have H2_ := (Option.bind_some _ _).symm.trans H; rw [hy328]; with_reducible exact H2_) | (have H2_ := (Option.bind_some _ _).symm.trans H; with_reducible exact H2_) | with_reducible exact H | (rw [hy328]; exact H) | exact H
      have Ny328 := Aside0.mk hy328
      clear hy328
      have H' := Aside0.mk H
      clear H
      go_enter Tryd.func12, Tryd.ntmps12
      go_wp2_with (first | ((with_reducible refine gate_dst (N := 1) rfl ?_); (try (refine gate_guard (by rfl) ?_; dsimp only)); refine box_event ?hg (N := 1) ?hd (cs := #[.bool a0_0, .slice A0_1 l0_1.length c0_1, .int .i64 a0_2, .int .i64 a0_3]) (t := 25) ?hr ?_; (case hd => rfl); (case hg => rfl); (case hr => first | (go_simp; done) | (go_simp; rfl)); intro gb326 hg w5 hbox hb; have n0_ := Aside0.mk (Kd.V_below (Kd.V_elderB (by (with_reducible repeat (first | apply Kd.V_alloc | apply Kd.V_drewN | apply Kd.V_drew)); exact HO0_1.out) gb326 (Nat.le_of_eq hg.symm)) hb); have n1_ := Aside0.mk (below_step (by repeat (first | (with_reducible first | exact HB.out | apply below_alloc | apply pw_below_drewN | apply below_drew1) | exact HB.out)) hb); have n2_ := Aside0.mk (hbox); have n3_ := Aside0.mk ((by rw [hg]; exact (below_size (by repeat (first | (with_reducible first | exact HB.out | apply below_alloc | apply pw_below_drewN | apply below_drew1) | exact HB.out))) : w.heap.size ≤ gb326)); have n4_ := Aside0.mk ((by rw [hg]; exact (below_size (by repeat (first | (with_reducible first | exact HB.out | apply below_alloc | apply pw_below_drewN | apply below_drew1) | exact HB.out))) : w.heap.size ≤ gb326)); clear HO0_1; clear HB; have HO0_1 := n0_; have HB := n1_; have BK326 := n2_; have GW326 := n3_; have GE326 := n4_; clear n0_ n1_ n2_ n3_ n4_; clear hb hbox hg) | ((with_reducible refine gate_dst (N := 2) rfl ?_); (try (refine gate_guard (by rfl) ?_; dsimp only)); refine box_event ?hg (N := 2) ?hd (cs := #[.bool false, .slice none 0 0, .int .i64 0, .int .i64 0]) (t := 25) ?hr ?_; (case hd => rfl); (case hg => rfl); (case hr => first | (go_simp; done) | (go_simp; rfl)); intro gb327 hg w6 hbox hb; have n0_ := Aside0.mk (Kd.V_below (Kd.V_elderB (by (with_reducible repeat (first | apply Kd.V_alloc | apply Kd.V_drewN | apply Kd.V_drew)); exact HO0_1.out) gb327 (Nat.le_of_eq hg.symm)) hb); have n1_ := Aside0.mk (blk_below (g := gb326) (o := .cells #[.bool a0_0, .slice A0_1 l0_1.length c0_1, .int .i64 a0_2, .int .i64 a0_3] 25 (0, 0)) (by (with_reducible repeat (first | refine blk_drewN ?_ _ | refine blk_drew ?_ | refine blk_alloc ?_ _)); exact BK326.out) hb); have n2_ := Aside0.mk (below_step (by repeat (first | (with_reducible first | exact HB.out | apply below_alloc | apply pw_below_drewN | apply below_drew1 | refine below_set ?_ GE326.out) | exact HB.out)) hb); have n3_ := Aside0.mk (hbox); have n4_ := Aside0.mk ((by rw [hg]; exact (below_size (by repeat (first | (with_reducible first | exact HB.out | apply below_alloc | apply pw_below_drewN | apply below_drew1 | refine below_set ?_ GE326.out) | exact HB.out))) : w.heap.size ≤ gb327)); have n5_ := Aside0.mk ((by rw [hg]; exact (below_size (by repeat (first | (with_reducible first | exact HB.out | apply below_alloc | apply pw_below_drewN | apply below_drew1 | refine below_set ?_ GE326.out) | exact HB.out))) : w.heap.size ≤ gb327)); have n6_ := Aside0.mk ((by rw [hg]; exact Nat.ne_of_lt (blk_lt (g := gb326) (o := .cells #[.bool a0_0, .slice A0_1 l0_1.length c0_1, .int .i64 a0_2, .int .i64 a0_3] 25 (0, 0)) (by (with_reducible repeat (first | refine blk_drewN ?_ _ | refine blk_drew ?_ | refine blk_alloc ?_ _)); exact BK326.out)) : gb326 ≠ gb327)); have n7_ := Aside0.mk ((by rw [hg]; exact Nat.ne_of_gt (blk_lt (g := gb326) (o := .cells #[.bool a0_0, .slice A0_1 l0_1.length c0_1, .int .i64 a0_2, .int .i64 a0_3] 25 (0, 0)) (by (with_reducible repeat (first | refine blk_drewN ?_ _ | refine blk_drew ?_ | refine blk_alloc ?_ _)); exact BK326.out)) : gb327 ≠ gb326)); clear HO0_1; clear BK326; clear HB; have HO0_1 := n0_; have BK326 := n1_; have HB := n2_; have BK327 := n3_; have GW327 := n4_; have GE327 := n5_; have NB326_327 := n6_; have NB327_326 := n7_; clear n0_ n1_ n2_ n3_ n4_ n5_ n6_ n7_; clear hb hbox hg; have hnb7 := NB326_327.out; have hnc7 := NB327_326.out; have hcz8_0 : w6.cell? ⟨gb326, 0, none⟩ = some (.bool a0_0) := (blk_cell BK326.out 0).trans rfl; have hcz8_1 : w6.cell? ⟨gb326, 1, none⟩ = some (.slice A0_1 l0_1.length c0_1) := (blk_cell BK326.out 1).trans rfl; have hcz8_2 : w6.cell? ⟨gb326, 2, none⟩ = some (.int .i64 a0_2) := (blk_cell BK326.out 2).trans rfl; have hcz8_3 : w6.cell? ⟨gb326, 3, none⟩ = some (.int .i64 a0_3) := (blk_cell BK326.out 3).trans rfl; have hfz8_0 := blk_frozen BK326.out 0; have hfz8_1 := blk_frozen BK326.out 1; have hfz8_2 := blk_frozen BK326.out 2; have hfz8_3 := blk_frozen BK326.out 3; have q9 : ((ji2) : Int) ≤ ((l0_1.length : Int) : Int) := of_decide_eq_true (by first | (with_reducible assumption) | assumption); obtain ⟨i09, hi09, _, hsz9, _⟩ := info_parts info28; have hroom9 : l0_1.length ≤ c0_1 := (Kd.V_reads' HO0_1.out).2.1; have hC9 : Kd.F (Kd.int .u64) _ _ A0_1 l0_1.length l0_1 := (Kd.V_at (base := w.heap.size) HO0_1.out).2.2; have hcut9 := cut_to (P := Tryd.prog) 23 28 .i64 Tryd.underlying23 hi09 A0_1 l0_1.length c0_1 (ji2) (of_decide_eq_true (by first | (with_reducible assumption) | assumption)) q9 hroom9; have hr9 := Kd.F_take (m := ((ji2) : Int).toNat) hC9 (by omega); have hy9 : y328.length = ((ji2) : Int).toNat := (by rw [Ny328.out, List.length_take]; omega); rw [← Ny328.out] at hr9; rw [← hy9] at hcut9; have HO332 := Aside0.mk (show Kd.V (Kd.int .u64) 28 _ w.heap.size _ (.slice A0_1 y328.length c0_1) y328 from Kd.V_mk (by omega) hr9); have HC332 := Aside0.mk (show y328.length ≤ c0_1 from by omega); clear hr9 hC9 hroom9 hi09 hsz9; have KY9 := Aside0.mk hy9; clear hy9; replace q9 := eq_true q9))
      go_loopg [3] k (fun kq v3 w' => ∃ (x3_1 : List Int), Aside0 (caliperlaw08_small.l0 kq x3_1 a0_0 l0_1 a0_2 a0_3 = some (r1, r2, r3, r4)) ∧ Aside0 (kq ≤ k) ∧ Aside0 (Kd.V (Kd.int .u64) 28 w' w.heap.size (fun k_ => (P0_1_ k_ ∨ w.heap.size ≤ k_) ∧ k_ ≠ gb326 ∧ k_ ≠ gb327) v3 x3_1) ∧ Aside0 (Kd.V (Kd.int .u64) 28 w' w.heap.size (fun k_ => (P0_1_ k_ ∨ w.heap.size ≤ k_) ∧ k_ ≠ gb326 ∧ k_ ≠ gb327) (.slice A0_1 l0_1.length c0_1) l0_1) ∧ Aside0 (w'.heap[gb326]? = some (.cells #[.bool a0_0, (.slice A0_1 l0_1.length c0_1), .int .i64 a0_2, .int .i64 a0_3] 25 (0, 0))) ∧ Aside0 (w'.heap[gb327]? = some (.cells #[.bool false, (.slice none 0 0), .int .i64 0, .int .i64 0] 25 (0, 0))) ∧ Aside0 (Below w.heap.size w w'))
      case atStart => exact ⟨(y328), H', ⟨Nat.le_refl _⟩, ⟨by (with_reducible repeat (first | apply Kd.V_alloc | apply Kd.V_drewN | apply Kd.V_drew)); exact Kd.V_mono HO332.out (fun _ hk => ⟨hk.1.1, ⟨hk.1.2, hk.2⟩⟩)⟩, ⟨by (with_reducible repeat (first | apply Kd.V_alloc | apply Kd.V_drewN | apply Kd.V_drew)); exact Kd.V_mono HO0_1.out (fun _ hk => ⟨hk.1.1, ⟨hk.1.2, hk.2⟩⟩)⟩, ⟨by (with_reducible repeat (first | refine blk_drewN ?_ _ | refine blk_drew ?_ | refine blk_alloc ?_ _)); exact BK326.out⟩, ⟨by (with_reducible repeat (first | refine blk_drewN ?_ _ | refine blk_drew ?_ | refine blk_alloc ?_ _)); exact BK327.out⟩, ⟨by repeat (first | (with_reducible first | exact HB.out | apply below_alloc | apply pw_below_drewN | apply below_drew1 | refine below_set ?_ GE326.out | refine below_set ?_ GE327.out) | exact HB.out)⟩⟩
      case round =>
        clear H'
        try clear c1
        try clear p2
        try clear c3
        try clear c3b0
        try clear c3b1
        try clear c4
        try clear c4b0
        try clear c4b1
        try clear c7
        try clear q9
        try clear hcz8_0
        try clear hcz8_1
        try clear hcz8_2
        try clear hcz8_3
        try clear hfz8_0
        try clear hfz8_1
        try clear hfz8_2
        try clear hfz8_3
        try clear q9
        obtain ⟨x3_1, HA, HK1, HO_3, HO_327001, BK326, BK327, HB⟩ := hrel
        cases gk with
        | zero => exact absurd HA.out (by simp [caliperlaw08_small.l0])
        | succ k1 =>
          have H := HA.out
          clear HA
          simp only [caliperlaw08_small.l0] at H
          by_cases c10 : (x3_1.length : Int) > 0
          · rw [if_pos c10] at H
            have c10b0 : decide (0 < (x3_1.length : Int)) = true := decide_eq_true c10
            have c10b1 : decide (0 < x3_1.length) = true := decide_eq_true (by omega)
            clear c10
            obtain ⟨ji11, hji11⟩ : ∃ j_ : Int, (wrap64 ((x3_1.length : Int) - 1)) = j_ := ⟨_, rfl⟩
            replace H : (if 0 ≤ (ji11) then (if (ji11) < (x3_1.length : Int) then (if (rd x3_1 (ji11)) = 0 then (if (ji11) ≤ (x3_1.length : Int) then (caliperlaw08_small.l0 k1 (x3_1.take ((ji11) : Int).toNat) a0_0 l0_1 a0_2 a0_3) else (none)) else (some (a0_0, x3_1, mx (mn a0_2 1000) (-1000), mx (mn a0_3 1000) (-1000)))) else (none)) else (none)) = some (r1, r2, r3, r4) := by first | (rw [hji11] at H; exact H) | (simp only [hji11] at H ⊢; exact H)
            have hji11w : (IntKind.i64.wrap ((x3_1.length : Int) - 1)) = ji11 := (i64_w _).trans hji11
            by_cases c12 : 0 ≤ (ji11)
            · rw [if_pos c12] at H
              have c12b0 : decide (0 ≤ (ji11)) = true := decide_eq_true c12
              clear c12
              by_cases c13 : (ji11) < (x3_1.length : Int)
              · rw [if_pos c13] at H
                have c13b0 : decide ((ji11) < (x3_1.length : Int)) = true := decide_eq_true c13
                clear c13
                by_cases c14 : (rd x3_1 (ji11)) = 0
                · rw [if_pos c14] at H
                  have c14b0 : ((rd x3_1 (ji11)) == 0) = true := beq_iff_eq.mpr c14
                  have c14b1 : ((rd x3_1 (ji11)) != 0) = false := bne_eq_false_iff_eq.mpr c14
                  clear c14
                  have c15b0 := eq_true (of_decide_eq_true (by first | (with_reducible assumption) | assumption) : 0 ≤ (ji11))
                  by_cases c16 : (ji11) ≤ (x3_1.length : Int)
                  · rw [if_pos c16] at H
                    have c16b0 := eq_true c16
                    have c16b1 : decide ((ji11) ≤ (x3_1.length : Int)) = true := decide_eq_true c16
                    clear c16
                    obtain ⟨y334, hy334⟩ : ∃ y_ : List Int, y_ = (x3_1.take ((ji11) : Int).toNat) := ⟨_, rfl⟩
                    replace H : (caliperlaw08_small.l0 k1 y334 a0_0 l0_1 a0_2 a0_3) = some (r1, r2, r3, r4) := by first | (rw [hy334]; with_reducible exact H) | (have H2_ := (Option.bind_some _ _).symm.trans H; rw [hy334]; with_reducible exact H2_) | (have H2_ := (Option.bind_some _ _).symm.trans H; with_reducible exact H2_) | with_reducible exact H | (rw [hy334]; exact H) | exact H
                    have Ny334 := Aside0.mk hy334
                    clear hy334
                    have H' := Aside0.mk H
                    clear H
                    obtain ⟨Ao17, co17, eo17⟩ := Kd.V_slice HO_3.out
                    subst eo17
                    have p333 : 0 ≤ ((ji11) : Int) := of_decide_eq_true (by first | (with_reducible assumption) | assumption)
                    have q333 : (ji11) < (x3_1.length : Int) := of_decide_eq_true (by first | (with_reducible assumption) | assumption)
                    obtain ⟨ad333, e333, hx333_0⟩ := Kd.at_int (Kd.V_reads' HO_3.out).2.2 (ji11) p333 q333
                    cases e333
                    replace p333 := eq_true p333
                    replace q333 := eq_true q333
                    have q18 : ((ji11) : Int) ≤ ((x3_1.length : Int) : Int) := of_decide_eq_true (by first | (with_reducible assumption) | assumption)
                    obtain ⟨i018, hi018, _, hsz18, _⟩ := info_parts info28
                    have hroom18 : x3_1.length ≤ co17 := (Kd.V_reads' HO_3.out).2.1
                    have hC18 : Kd.F (Kd.int .u64) _ _ (some ad333) x3_1.length x3_1 := (Kd.V_at (base := w.heap.size) HO_3.out).2.2
                    have hcut18 := cut_to (P := Tryd.prog) 23 28 .i64 Tryd.underlying23 hi018 (some ad333) x3_1.length co17 (ji11) (of_decide_eq_true (by first | (with_reducible assumption) | assumption)) q18 hroom18
                    have hr18 := Kd.F_take (m := ((ji11) : Int).toNat) hC18 (by omega)
                    have hy18 : y334.length = ((ji11) : Int).toNat := (by rw [Ny334.out, List.length_take]; omega)
                    rw [← Ny334.out] at hr18
                    rw [← hy18] at hcut18
                    have HO338 := Aside0.mk (show Kd.V (Kd.int .u64) 28 _ w.heap.size _ (.slice (some ad333) y334.length co17) y334 from Kd.V_mk (by omega) hr18)
                    have HC338 := Aside0.mk (show y334.length ≤ co17 from by omega)
                    clear hr18 hC18 hroom18 hi018 hsz18
                    have KY18 := Aside0.mk hy18
                    clear hy18
                    replace q18 := eq_true q18
                    go_wp2
                    go_roundg k1
                    case measure => have := HK1.out; omega
                    case rel => exact ⟨(y334), H', ⟨by have := HK1.out; omega⟩, ⟨by (with_reducible repeat (first | apply Kd.V_alloc | apply Kd.V_drewN | apply Kd.V_drew)); exact HO338.out⟩, ⟨by (with_reducible repeat (first | apply Kd.V_alloc | apply Kd.V_drewN | apply Kd.V_drew)); exact HO_327001.out⟩, ⟨by (with_reducible repeat (first | refine blk_drewN ?_ _ | refine blk_drew ?_ | refine blk_alloc ?_ _)); exact BK326.out⟩, ⟨by (with_reducible repeat (first | refine blk_drewN ?_ _ | refine blk_drew ?_ | refine blk_alloc ?_ _)); exact BK327.out⟩, ⟨by repeat (first | (with_reducible first | exact HB.out | apply below_alloc | apply pw_below_drewN | apply below_drew1 | refine below_set ?_ GE326.out | refine below_set ?_ GE327.out) | exact HB.out)⟩⟩
                  · rw [if_neg c16] at H
                    exact absurd H (by simp)
                · rw [if_neg c14] at H
                  have c14b0 : ((rd x3_1 (ji11)) == 0) = false := beq_eq_false_iff_ne.mpr c14
                  have c14b1 : ((rd x3_1 (ji11)) != 0) = true := bne_iff_ne.mpr c14
                  obtain ⟨ji19, hji19⟩ : ∃ j_ : Int, (mn a0_2 1000) = j_ := ⟨_, rfl⟩
                  replace H : (some (a0_0, x3_1, mx (ji19) (-1000), mx (mn a0_3 1000) (-1000))) = some (r1, r2, r3, r4) := by first | (rw [hji19] at H; exact H) | (simp only [hji19] at H ⊢; exact H)
                  (try (have hji19h : ji19 ≤ 1000 := by (rw [← hji19]; unfold mn; (repeat' split) <;> omega)))
                  (try (have hji19g : ji19 ≤ 64 := by omega))
                  (try (have hji19l : 0 ≤ ji19 := by (rw [← hji19]; unfold mn; (repeat' split) <;> omega)))
                  (try (have hji19m : 0 ≤ ji19 := by omega))
                  (try (have hji19t : ∀ k_ : Int, Int.tmod ji19 k_ = ji19 % k_ := fun k_ => Int.tmod_eq_emod_of_nonneg (by assumption)))
                  have hji19_ : (if 1000 < a0_2 then 1000 else a0_2) = ji19 := hji19
                  obtain ⟨ji20, hji20⟩ : ∃ j_ : Int, (mx (ji19) (-1000)) = j_ := ⟨_, rfl⟩
                  replace H : (some (a0_0, x3_1, ji20, mx (mn a0_3 1000) (-1000))) = some (r1, r2, r3, r4) := by first | (rw [hji20] at H; exact H) | (simp only [hji20] at H ⊢; exact H)
                  (try (have hji20l : 0 ≤ ji20 := by (rw [← hji20]; unfold mx; (repeat' split) <;> omega)))
                  (try (have hji20m : 0 ≤ ji20 := by omega))
                  (try (have hji20t : ∀ k_ : Int, Int.tmod ji20 k_ = ji20 % k_ := fun k_ => Int.tmod_eq_emod_of_nonneg (by assumption)))
                  have hji20_ : (if (ji19) < (-1000) then (-1000) else (ji19)) = ji20 := hji20
                  obtain ⟨ji21, hji21⟩ : ∃ j_ : Int, (mn a0_3 1000) = j_ := ⟨_, rfl⟩
                  replace H : (some (a0_0, x3_1, ji20, mx (ji21) (-1000))) = some (r1, r2, r3, r4) := by first | (rw [hji21] at H; exact H) | (simp only [hji21] at H ⊢; exact H)
                  (try (have hji21h : ji21 ≤ 1000 := by (rw [← hji21]; unfold mn; (repeat' split) <;> omega)))
                  (try (have hji21g : ji21 ≤ 64 := by omega))
                  (try (have hji21l : 0 ≤ ji21 := by (rw [← hji21]; unfold mn; (repeat' split) <;> omega)))
                  (try (have hji21m : 0 ≤ ji21 := by omega))
                  (try (have hji21t : ∀ k_ : Int, Int.tmod ji21 k_ = ji21 % k_ := fun k_ => Int.tmod_eq_emod_of_nonneg (by assumption)))
                  have hji21_ : (if 1000 < a0_3 then 1000 else a0_3) = ji21 := hji21
                  obtain ⟨ji22, hji22⟩ : ∃ j_ : Int, (mx (ji21) (-1000)) = j_ := ⟨_, rfl⟩
                  replace H : (some (a0_0, x3_1, ji20, ji22)) = some (r1, r2, r3, r4) := by first | (rw [hji22] at H; exact H) | (simp only [hji22] at H ⊢; exact H)
                  (try (have hji22l : 0 ≤ ji22 := by (rw [← hji22]; unfold mx; (repeat' split) <;> omega)))
                  (try (have hji22m : 0 ≤ ji22 := by omega))
                  (try (have hji22t : ∀ k_ : Int, Int.tmod ji22 k_ = ji22 % k_ := fun k_ => Int.tmod_eq_emod_of_nonneg (by assumption)))
                  have hji22_ : (if (ji21) < (-1000) then (-1000) else (ji21)) = ji22 := hji22
                  simp only [Option.some.injEq, Prod.mk.injEq] at H
                  obtain ⟨rfl, rfl, rfl, rfl⟩ := H
                  obtain ⟨Ao23, co23, eo23⟩ := Kd.V_slice HO_3.out
                  subst eo23
                  have p333 : 0 ≤ ((ji11) : Int) := of_decide_eq_true (by first | (with_reducible assumption) | assumption)
                  have q333 : (ji11) < (x3_1.length : Int) := of_decide_eq_true (by first | (with_reducible assumption) | assumption)
                  obtain ⟨ad333, e333, hx333_0⟩ := Kd.at_int (Kd.V_reads' HO_3.out).2.2 (ji11) p333 q333
                  cases e333
                  replace p333 := eq_true p333
                  replace q333 := eq_true q333
                  have hnb24 := NB326_327.out
                  have hnc24 := NB327_326.out
                  have hcz25_0 : wr.cell? ⟨gb326, 0, none⟩ = some (.bool a0_0) := (blk_cell BK326.out 0).trans rfl
                  have hcz25_1 : wr.cell? ⟨gb326, 1, none⟩ = some (.slice A0_1 l0_1.length c0_1) := (blk_cell BK326.out 1).trans rfl
                  have hcz25_2 : wr.cell? ⟨gb326, 2, none⟩ = some (.int .i64 a0_2) := (blk_cell BK326.out 2).trans rfl
                  have hcz25_3 : wr.cell? ⟨gb326, 3, none⟩ = some (.int .i64 a0_3) := (blk_cell BK326.out 3).trans rfl
                  have hfz25_0 := blk_frozen BK326.out 0
                  have hfz25_1 := blk_frozen BK326.out 1
                  have hfz25_2 := blk_frozen BK326.out 2
                  have hfz25_3 := blk_frozen BK326.out 3
                  have hcz26_0 : wr.cell? ⟨gb327, 0, none⟩ = some (.bool false) := (blk_cell BK327.out 0).trans rfl
                  have hcz26_1 : wr.cell? ⟨gb327, 1, none⟩ = some (.slice none 0 0) := (blk_cell BK327.out 1).trans rfl
                  have hcz26_2 : wr.cell? ⟨gb327, 2, none⟩ = some (.int .i64 0) := (blk_cell BK327.out 2).trans rfl
                  have hcz26_3 : wr.cell? ⟨gb327, 3, none⟩ = some (.int .i64 0) := (blk_cell BK327.out 3).trans rfl
                  have hfz26_0 := blk_frozen BK327.out 0
                  have hfz26_1 := blk_frozen BK327.out 1
                  have hfz26_2 := blk_frozen BK327.out 2
                  have hfz26_3 := blk_frozen BK327.out 3
                  go_wp2
                  refine bodyPost_ret (results_cell_row rfl _ _ gb327 25 #[.bool a0_0, .slice (some ad333) x3_1.length co23, .int .i64 ji20, .int .i64 ji22] (0, 0) _ rfl (by (with_reducible repeat (first | refine blk_drewN ?_ _ | refine blk_drew ?_ | refine blk_alloc ?_ _)); refine blk_put (cs := #[.bool a0_0, .slice (some ad333) x3_1.length co23, .int .i64 ji20, .int .i64 0]) ?_ 3 _ rfl; (with_reducible repeat (first | refine blk_drewN ?_ _ | refine blk_drew ?_ | refine blk_alloc ?_ _)); refine blk_put (cs := #[.bool a0_0, .slice (some ad333) x3_1.length co23, .int .i64 0, .int .i64 0]) ?_ 2 _ rfl; (with_reducible repeat (first | refine blk_drewN ?_ _ | refine blk_drew ?_ | refine blk_alloc ?_ _)); refine blk_put (cs := #[.bool a0_0, .slice none 0 0, .int .i64 0, .int .i64 0]) ?_ 1 _ rfl; (with_reducible repeat (first | refine blk_drewN ?_ _ | refine blk_drew ?_ | refine blk_alloc ?_ _)); refine blk_put (cs := #[.bool false, .slice none 0 0, .int .i64 0, .int .i64 0]) ?_ 0 _ rfl; (with_reducible repeat (first | refine blk_drewN ?_ _ | refine blk_drew ?_ | refine blk_alloc ?_ _)); exact BK327.out) Tryd.underlying25 rfl (by kernel_rfl)) rfl ?_
                  exact ⟨_, by first | rfl | (simp [errW_none, errW_some] <;> rfl) | (simp only [← hji2, ← hji11, ← hji19, ← hji20, ← hji21, ← hji22]; first | rfl | (simp [errW_none, errW_some] <;> rfl)) | (simp [*, errW_none, errW_some] <;> rfl), by (with_reducible repeat (first | apply Kd.V_alloc | apply Kd.V_drewN | apply Kd.V_drew)); exact Kd.V_mono (Kd.V_far (p := ⟨gb327, 3, none⟩) (Kd.V_far (p := ⟨gb327, 2, none⟩) (Kd.V_far (p := ⟨gb327, 1, none⟩) (Kd.V_far (p := ⟨gb327, 0, none⟩) (Kd.V_mono HO_3.out (fun k_ hk => (⟨hk, hk.2.2⟩ : _ ∧ k_ ≠ gb327))) (fun _ hk => hk.2) (.bool a0_0)) (fun _ hk => hk.2) (.slice (some ad333) x3_1.length co23)) (fun _ hk => hk.2) (.int .i64 ji20)) (fun _ hk => hk.2) (.int .i64 ji22)) (fun _ hk => hk.1.1), by repeat (first | (with_reducible first | exact HB.out | apply below_alloc | apply pw_below_drewN | apply below_drew1 | refine below_set ?_ GE326.out | refine below_set ?_ GE327.out) | exact HB.out)⟩
              · rw [if_neg c13] at H
                exact absurd H (by simp)
            · rw [if_neg c12] at H
              exact absurd H (by simp)
          · rw [if_neg c10] at H
            have c10b0 : decide (0 < (x3_1.length : Int)) = false := decide_eq_false c10
            have c10b1 : decide (0 < x3_1.length) = false := decide_eq_false (by omega)
            clear c10
            obtain ⟨ji27, hji27⟩ : ∃ j_ : Int, (mn a0_2 1000) = j_ := ⟨_, rfl⟩
            replace H : (some (a0_0, x3_1, mx (ji27) (-1000), mx (mn a0_3 1000) (-1000))) = some (r1, r2, r3, r4) := by first | (rw [hji27] at H; exact H) | (simp only [hji27] at H ⊢; exact H)
            (try (have hji27h : ji27 ≤ 1000 := by (rw [← hji27]; unfold mn; (repeat' split) <;> omega)))
            (try (have hji27g : ji27 ≤ 64 := by omega))
            (try (have hji27l : 0 ≤ ji27 := by (rw [← hji27]; unfold mn; (repeat' split) <;> omega)))
            (try (have hji27m : 0 ≤ ji27 := by omega))
            (try (have hji27t : ∀ k_ : Int, Int.tmod ji27 k_ = ji27 % k_ := fun k_ => Int.tmod_eq_emod_of_nonneg (by assumption)))
            have hji27_ : (if 1000 < a0_2 then 1000 else a0_2) = ji27 := hji27
            obtain ⟨ji28, hji28⟩ : ∃ j_ : Int, (mx (ji27) (-1000)) = j_ := ⟨_, rfl⟩
            replace H : (some (a0_0, x3_1, ji28, mx (mn a0_3 1000) (-1000))) = some (r1, r2, r3, r4) := by first | (rw [hji28] at H; exact H) | (simp only [hji28] at H ⊢; exact H)
            (try (have hji28l : 0 ≤ ji28 := by (rw [← hji28]; unfold mx; (repeat' split) <;> omega)))
            (try (have hji28m : 0 ≤ ji28 := by omega))
            (try (have hji28t : ∀ k_ : Int, Int.tmod ji28 k_ = ji28 % k_ := fun k_ => Int.tmod_eq_emod_of_nonneg (by assumption)))
            have hji28_ : (if (ji27) < (-1000) then (-1000) else (ji27)) = ji28 := hji28
            obtain ⟨ji29, hji29⟩ : ∃ j_ : Int, (mn a0_3 1000) = j_ := ⟨_, rfl⟩
            replace H : (some (a0_0, x3_1, ji28, mx (ji29) (-1000))) = some (r1, r2, r3, r4) := by first | (rw [hji29] at H; exact H) | (simp only [hji29] at H ⊢; exact H)
            (try (have hji29h : ji29 ≤ 1000 := by (rw [← hji29]; unfold mn; (repeat' split) <;> omega)))
            (try (have hji29g : ji29 ≤ 64 := by omega))
            (try (have hji29l : 0 ≤ ji29 := by (rw [← hji29]; unfold mn; (repeat' split) <;> omega)))
            (try (have hji29m : 0 ≤ ji29 := by omega))
            (try (have hji29t : ∀ k_ : Int, Int.tmod ji29 k_ = ji29 % k_ := fun k_ => Int.tmod_eq_emod_of_nonneg (by assumption)))
            have hji29_ : (if 1000 < a0_3 then 1000 else a0_3) = ji29 := hji29
            obtain ⟨ji30, hji30⟩ : ∃ j_ : Int, (mx (ji29) (-1000)) = j_ := ⟨_, rfl⟩
            replace H : (some (a0_0, x3_1, ji28, ji30)) = some (r1, r2, r3, r4) := by first | (rw [hji30] at H; exact H) | (simp only [hji30] at H ⊢; exact H)
            (try (have hji30l : 0 ≤ ji30 := by (rw [← hji30]; unfold mx; (repeat' split) <;> omega)))
            (try (have hji30m : 0 ≤ ji30 := by omega))
            (try (have hji30t : ∀ k_ : Int, Int.tmod ji30 k_ = ji30 % k_ := fun k_ => Int.tmod_eq_emod_of_nonneg (by assumption)))
            have hji30_ : (if (ji29) < (-1000) then (-1000) else (ji29)) = ji30 := hji30
            simp only [Option.some.injEq, Prod.mk.injEq] at H
            obtain ⟨rfl, rfl, rfl, rfl⟩ := H
            obtain ⟨Ao31, co31, eo31⟩ := Kd.V_slice HO_3.out
            subst eo31
            have hnb32 := NB326_327.out
            have hnc32 := NB327_326.out
            have hcz33_0 : wr.cell? ⟨gb326, 0, none⟩ = some (.bool a0_0) := (blk_cell BK326.out 0).trans rfl
            have hcz33_1 : wr.cell? ⟨gb326, 1, none⟩ = some (.slice A0_1 l0_1.length c0_1) := (blk_cell BK326.out 1).trans rfl
            have hcz33_2 : wr.cell? ⟨gb326, 2, none⟩ = some (.int .i64 a0_2) := (blk_cell BK326.out 2).trans rfl
            have hcz33_3 : wr.cell? ⟨gb326, 3, none⟩ = some (.int .i64 a0_3) := (blk_cell BK326.out 3).trans rfl
            have hfz33_0 := blk_frozen BK326.out 0
            have hfz33_1 := blk_frozen BK326.out 1
            have hfz33_2 := blk_frozen BK326.out 2
            have hfz33_3 := blk_frozen BK326.out 3
            have hcz34_0 : wr.cell? ⟨gb327, 0, none⟩ = some (.bool false) := (blk_cell BK327.out 0).trans rfl
            have hcz34_1 : wr.cell? ⟨gb327, 1, none⟩ = some (.slice none 0 0) := (blk_cell BK327.out 1).trans rfl
            have hcz34_2 : wr.cell? ⟨gb327, 2, none⟩ = some (.int .i64 0) := (blk_cell BK327.out 2).trans rfl
            have hcz34_3 : wr.cell? ⟨gb327, 3, none⟩ = some (.int .i64 0) := (blk_cell BK327.out 3).trans rfl
            have hfz34_0 := blk_frozen BK327.out 0
            have hfz34_1 := blk_frozen BK327.out 1
            have hfz34_2 := blk_frozen BK327.out 2
            have hfz34_3 := blk_frozen BK327.out 3
            go_wp2
            refine bodyPost_ret (results_cell_row rfl _ _ gb327 25 #[.bool a0_0, .slice Ao31 x3_1.length co31, .int .i64 ji28, .int .i64 ji30] (0, 0) _ rfl (by (with_reducible repeat (first | refine blk_drewN ?_ _ | refine blk_drew ?_ | refine blk_alloc ?_ _)); refine blk_put (cs := #[.bool a0_0, .slice Ao31 x3_1.length co31, .int .i64 ji28, .int .i64 0]) ?_ 3 _ rfl; (with_reducible repeat (first | refine blk_drewN ?_ _ | refine blk_drew ?_ | refine blk_alloc ?_ _)); refine blk_put (cs := #[.bool a0_0, .slice Ao31 x3_1.length co31, .int .i64 0, .int .i64 0]) ?_ 2 _ rfl; (with_reducible repeat (first | refine blk_drewN ?_ _ | refine blk_drew ?_ | refine blk_alloc ?_ _)); refine blk_put (cs := #[.bool a0_0, .slice none 0 0, .int .i64 0, .int .i64 0]) ?_ 1 _ rfl; (with_reducible repeat (first | refine blk_drewN ?_ _ | refine blk_drew ?_ | refine blk_alloc ?_ _)); refine blk_put (cs := #[.bool false, .slice none 0 0, .int .i64 0, .int .i64 0]) ?_ 0 _ rfl; (with_reducible repeat (first | refine blk_drewN ?_ _ | refine blk_drew ?_ | refine blk_alloc ?_ _)); exact BK327.out) Tryd.underlying25 rfl (by kernel_rfl)) rfl ?_
            exact ⟨_, by first | rfl | (simp [errW_none, errW_some] <;> rfl) | (simp only [← hji2, ← hji27, ← hji28, ← hji29, ← hji30]; first | rfl | (simp [errW_none, errW_some] <;> rfl)) | (simp [*, errW_none, errW_some] <;> rfl), by (with_reducible repeat (first | apply Kd.V_alloc | apply Kd.V_drewN | apply Kd.V_drew)); exact Kd.V_mono (Kd.V_far (p := ⟨gb327, 3, none⟩) (Kd.V_far (p := ⟨gb327, 2, none⟩) (Kd.V_far (p := ⟨gb327, 1, none⟩) (Kd.V_far (p := ⟨gb327, 0, none⟩) (Kd.V_mono HO_3.out (fun k_ hk => (⟨hk, hk.2.2⟩ : _ ∧ k_ ≠ gb327))) (fun _ hk => hk.2) (.bool a0_0)) (fun _ hk => hk.2) (.slice Ao31 x3_1.length co31)) (fun _ hk => hk.2) (.int .i64 ji28)) (fun _ hk => hk.2) (.int .i64 ji30)) (fun _ hk => hk.1.1), by repeat (first | (with_reducible first | exact HB.out | apply below_alloc | apply pw_below_drewN | apply below_drew1 | refine below_set ?_ GE326.out | refine below_set ?_ GE327.out) | exact HB.out)⟩
    · rw [if_neg c4] at H
      exact absurd H (by simp)
  · rw [if_neg c3] at H
    exact absurd H (by simp)

end Go.Proofs.YtmcodbgbjjldnaaDoor.Pr
