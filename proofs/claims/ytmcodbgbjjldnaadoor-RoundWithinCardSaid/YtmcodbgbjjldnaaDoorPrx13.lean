import Derived.Test.YtmcodbgbjjldnaaDoorPrx0
import Derived.Test.YtmcodbgbjjldnaaDoorPrx1
import Derived.Test.YtmcodbgbjjldnaaDoorPrx3
import Derived.Test.YtmcodbgbjjldnaaDoorPrx4
import Derived.Test.YtmcodbgbjjldnaaDoorGivA
import Derived.Test.YtmcodbgbjjldnaaDoorGivD
import Derived.Test.YtmcodbgbjjldnaaDoorGivF
import Derived.Test.YtmcodbgbjjldnaaDoorGivG
namespace Go.Proofs.YtmcodbgbjjldnaaDoor.Pr
open Go.RowKit Go.Proofs.YtmcodbgbjjldnaaDoorW.PrintWords Go.Proofs.YtmcodbgbjjldnaaDoorW.PrintLast Go.Proofs.YtmcodbgbjjldnaaDoorW.PrintMore
attribute [local go_sem] max2_int min2_int max_two min_two max_three min_three max_four min_four   -- for this text's walks alone
set_option linter.unusedVariables false
set_option linter.unusedSimpArgs false

def round_behind.f (a0 : Int) (a1 : Int) : Option (Bool × List Int × Int × Int) := (value_Between.f a0 a1).bind fun bt264 => ((round_size.f bt264.1 bt264.2.1).bind fun bt267 => (some (bt267.1, bt267.2.1, bt267.2.2.1, bt267.2.2.2)))
set_option maxHeartbeats 8000000 in
set_option maxRecDepth 100000 in
theorem round_behind.calls (a0 : Int) (a1 : Int) (r1 : Bool) (r2 : List Int) (r3 : Int) (r4 : Int) (w : World) (hG : Glob w) (h : round_behind.f a0 a1 = some (r1, r2, r3, r4)) :
    Calls Tryd.prog 54 #[.int .i64 a0, .int .u64 a1] w fun e w' => ∃ v1_ : Value, e = .returned (.agg #[.bool r1, v1_, .int .i64 r3, .int .i64 r4]) ∧ Kd.V (Kd.int .u64) 28 w' w.heap.size (fun k_ => (w.heap.size ≤ k_)) v1_ r2 ∧ Below w.heap.size w w' := by
  have hu25 := Tryd.underlying25
  have HG := Aside0.mk hG
  clear hG
  have HB := Aside0.mk (Below.refl w.heap.size w)
  have H : ((value_Between.f a0 a1).bind fun bt264 => ((round_size.f bt264.1 bt264.2.1).bind fun bt267 => (some (bt267.1, bt267.2.1, bt267.2.2.1, bt267.2.2.2)))) = some (r1, r2, r3, r4) := h
  clear h
  replace H := Option.bind_eq_some_iff.mp H
  obtain ⟨⟨t264, t265, t266⟩, A30, H⟩ := H
  replace H : ((round_size.f t264 t265).bind fun bt267 => (some (bt267.1, bt267.2.1, bt267.2.2.1, bt267.2.2.2))) = some (r1, r2, r3, r4) := H
  have A3 := Aside0.mk A30
  clear A30
  replace H := Option.bind_eq_some_iff.mp H
  obtain ⟨⟨t267, t268, t271, t272⟩, A40, H⟩ := H
  replace H : (some (t267, t268, t271, t272)) = some (r1, r2, r3, r4) := H
  have A4 := Aside0.mk A40
  clear A40
  simp only [Option.some.injEq, Prod.mk.injEq] at H
  obtain ⟨rfl, rfl, rfl, rfl⟩ := H
  go_enter Tryd.func54, Tryd.ntmps54
  go_wp2_with (first | ((with_reducible refine gate_dst (N := 4) rfl ?_); refine box_event ?hg (N := 4) ?hd (cs := #[.bool false, .slice none 0 0, .int .i64 0, .int .i64 0]) (t := 25) ?hr ?_; (case hd => rfl); (case hg => rfl); (case hr => first | (go_simp; done) | (go_simp; rfl)); intro gb263 hg w5 hbox hb; have n0_ := Aside0.mk (below_step (by repeat (first | (with_reducible first | exact HB.out | apply below_alloc | apply pw_below_drewN | apply below_drew1) | exact HB.out)) hb); have n1_ := Aside0.mk (hbox); have n2_ := Aside0.mk ((by rw [hg]; exact (below_size (by repeat (first | (with_reducible first | exact HB.out | apply below_alloc | apply pw_below_drewN | apply below_drew1) | exact HB.out))) : w.heap.size ≤ gb263)); have n3_ := Aside0.mk ((by rw [hg]; exact (below_size (by repeat (first | (with_reducible first | exact HB.out | apply below_alloc | apply pw_below_drewN | apply below_drew1) | exact HB.out))) : w.heap.size ≤ gb263)); clear HB; have HB := n0_; have BK263 := n1_; have GW263 := n2_; have GE263 := n3_; clear n0_ n1_ n2_ n3_; clear hb hbox hg) | ((with_reducible refine gate_callee (f := 20) rfl ?_); refine goesL_ (some 11) rfl rfl Tryd.func20 (by kernel_rfl) rfl #[.int .i64 a0, .int .u64 a1] rfl (by (try simp only [List.map_toArray, List.map_cons, List.map_nil]); first | done | rfl | (simp only [List.length_drop, List.length_take]; rfl)) ?_; (with_reducible refine (value_Between.calls a0 a1 t264 t265 t266 _ ?side1 A3.out).mono ?_); (case side1 => exact Glob.below HG.out (by repeat (first | (with_reducible first | exact HB.out | apply below_alloc | apply pw_below_drewN | apply below_drew1 | refine below_set ?_ GE263.out) | exact HB.out))); rintro e w6 ⟨rfl, hb⟩; refine ⟨_, rfl, ?_⟩; have n0_ := Aside0.mk (blk_below (g := gb263) (o := .cells #[.bool false, .slice none 0 0, .int .i64 0, .int .i64 0] 25 (0, 0)) (by (with_reducible repeat (first | refine blk_drewN ?_ _ | refine blk_drew ?_ | refine blk_alloc ?_ _)); exact BK263.out) hb); have n1_ := Aside0.mk (below_step (by repeat (first | (with_reducible first | exact HB.out | apply below_alloc | apply pw_below_drewN | apply below_drew1 | refine below_set ?_ GE263.out) | exact HB.out)) hb); clear BK263; clear HB; have BK263 := n0_; have HB := n1_; clear n0_ n1_; (try clear hb); (try clear hb2); (try clear hk); (try clear hi)) | ((with_reducible refine gate_callee (f := 73) rfl ?_); refine goesL_ (some 17) rfl rfl Tryd.func73 (by kernel_rfl) rfl #[.int .u64 t264, .int .i64 t265] rfl (by (try simp only [List.map_toArray, List.map_cons, List.map_nil]); first | done | rfl | (simp only [List.length_drop, List.length_take]; rfl)) ?_; (with_reducible refine (round_size.calls t264 t265 t267 t268 t271 t272 _ A4.out).mono ?_); rintro e w7 ⟨v269, rfl, ho0, hb⟩; refine ⟨_, rfl, ?_⟩; have n0_ := Aside0.mk (Kd.V_lower (Kd.V_mono (ok' := fun k_ => (w.heap.size ≤ k_) ∧ k_ ≠ gb263) ho0 (fun k_ hk_ => ⟨(Nat.le_trans (below_size (by repeat (first | (with_reducible first | exact HB.out | apply below_alloc | apply pw_below_drewN | apply below_drew1 | refine below_set ?_ GE263.out) | exact HB.out))) hk_), (Kd.freshB (g := gb263) (o := .cells #[.bool false, .slice none 0 0, .int .i64 0, .int .i64 0] 25 (0, 0)) (by (with_reducible repeat (first | refine blk_drewN ?_ _ | refine blk_drew ?_ | refine blk_alloc ?_ _)); exact BK263.out) k_ hk_)⟩)) (below_size (by repeat (first | (with_reducible first | exact HB.out | apply below_alloc | apply pw_below_drewN | apply below_drew1 | refine below_set ?_ GE263.out) | exact HB.out)))); have n1_ := Aside0.mk (blk_below (g := gb263) (o := .cells #[.bool false, .slice none 0 0, .int .i64 0, .int .i64 0] 25 (0, 0)) (by (with_reducible repeat (first | refine blk_drewN ?_ _ | refine blk_drew ?_ | refine blk_alloc ?_ _)); exact BK263.out) hb); have n2_ := Aside0.mk (below_step (by repeat (first | (with_reducible first | exact HB.out | apply below_alloc | apply pw_below_drewN | apply below_drew1 | refine below_set ?_ GE263.out) | exact HB.out)) hb); clear BK263; clear HB; have HO270 := n0_; have BK263 := n1_; have HB := n2_; clear n0_ n1_ n2_; (try clear hb); (try clear hb2); (try clear hk); (try clear hi); (try clear ho0); have hcz8_0 : w7.cell? ⟨gb263, 0, none⟩ = some (.bool false) := (blk_cell BK263.out 0).trans rfl; have hcz8_1 : w7.cell? ⟨gb263, 1, none⟩ = some (.slice none 0 0) := (blk_cell BK263.out 1).trans rfl; have hcz8_2 : w7.cell? ⟨gb263, 2, none⟩ = some (.int .i64 0) := (blk_cell BK263.out 2).trans rfl; have hcz8_3 : w7.cell? ⟨gb263, 3, none⟩ = some (.int .i64 0) := (blk_cell BK263.out 3).trans rfl; have hfz8_0 := blk_frozen BK263.out 0; have hfz8_1 := blk_frozen BK263.out 1; have hfz8_2 := blk_frozen BK263.out 2; have hfz8_3 := blk_frozen BK263.out 3; obtain ⟨Ao9, co9, eo9⟩ := Kd.V_slice HO270.out; subst eo9))
  refine bodyPost_ret (results_cell_row rfl _ _ gb263 25 #[.bool t267, .slice Ao9 t268.length co9, .int .i64 t271, .int .i64 t272] (0, 0) _ rfl (by (with_reducible repeat (first | refine blk_drewN ?_ _ | refine blk_drew ?_ | refine blk_alloc ?_ _)); refine blk_put (cs := #[.bool t267, .slice Ao9 t268.length co9, .int .i64 t271, .int .i64 0]) ?_ 3 _ rfl; (with_reducible repeat (first | refine blk_drewN ?_ _ | refine blk_drew ?_ | refine blk_alloc ?_ _)); refine blk_put (cs := #[.bool t267, .slice Ao9 t268.length co9, .int .i64 0, .int .i64 0]) ?_ 2 _ rfl; (with_reducible repeat (first | refine blk_drewN ?_ _ | refine blk_drew ?_ | refine blk_alloc ?_ _)); refine blk_put (cs := #[.bool t267, .slice none 0 0, .int .i64 0, .int .i64 0]) ?_ 1 _ rfl; (with_reducible repeat (first | refine blk_drewN ?_ _ | refine blk_drew ?_ | refine blk_alloc ?_ _)); refine blk_put (cs := #[.bool false, .slice none 0 0, .int .i64 0, .int .i64 0]) ?_ 0 _ rfl; (with_reducible repeat (first | refine blk_drewN ?_ _ | refine blk_drew ?_ | refine blk_alloc ?_ _)); exact BK263.out) Tryd.underlying25 rfl (by kernel_rfl)) rfl ?_
  exact ⟨_, by first | rfl | (simp [errW_none, errW_some] <;> rfl) | (simp [*, errW_none, errW_some] <;> rfl), by (with_reducible repeat (first | apply Kd.V_alloc | apply Kd.V_drewN | apply Kd.V_drew)); exact Kd.V_mono (Kd.V_far (p := ⟨gb263, 3, none⟩) (Kd.V_far (p := ⟨gb263, 2, none⟩) (Kd.V_far (p := ⟨gb263, 1, none⟩) (Kd.V_far (p := ⟨gb263, 0, none⟩) (Kd.V_mono HO270.out (fun k_ hk => (⟨hk, hk.2⟩ : _ ∧ k_ ≠ gb263))) (fun _ hk => hk.2) (.bool t267)) (fun _ hk => hk.2) (.slice Ao9 t268.length co9)) (fun _ hk => hk.2) (.int .i64 t271)) (fun _ hk => hk.2) (.int .i64 t272)) (fun _ hk => hk.1.1), by repeat (first | (with_reducible first | exact HB.out | apply below_alloc | apply pw_below_drewN | apply below_drew1 | refine below_set ?_ GE263.out) | exact HB.out)⟩

def round_within.f (k : Nat) (a0 : Int) (a1_0 : Bool) (l1_1 : List Int) (a1_2 : Int) (a1_3 : Int) (a2 : Int) : Option (Bool) := (round_behind.f a0 a2).bind fun bt274 => ((exact_Cmp.f k a1_0 l1_1 a1_2 a1_3 bt274.1 bt274.2.1 bt274.2.2.1 bt274.2.2.2).bind fun t280 => (if t280 < 0 then (some true) else (if t280 = 0 then (some ((Go.bits .and .u64 a2 1) == 0)) else (some false))))
set_option maxHeartbeats 8000000 in
set_option maxRecDepth 100000 in
theorem round_within.calls (k : Nat) (a0 : Int) (a1_0 : Bool) (A1_1 : Option Addr) (c1_1 : Nat) (l1_1 : List Int) (a1_2 : Int) (a1_3 : Int) (a2 : Int) (r : Bool) (w : World) (hG : Glob w) (hr1_1 : Kd.C (Kd.int .u64) w A1_1 l1_1.length l1_1) (hc1_1 : l1_1.length ≤ c1_1) (h : round_within.f k a0 a1_0 l1_1 a1_2 a1_3 a2 = some r) :
    Calls Tryd.prog 36 #[.int .i64 a0, .agg #[.bool a1_0, .slice A1_1 l1_1.length c1_1, .int .i64 a1_2, .int .i64 a1_3], .int .u64 a2] w fun e w' => e = .returned (.bool r) ∧ Below w.heap.size w w' := by
  have hu25 := Tryd.underlying25
  have HR1_1 := Aside0.mk hr1_1
  have HC1_1 := Aside0.mk hc1_1
  clear hr1_1 hc1_1
  have HG := Aside0.mk hG
  clear hG
  have HB := Aside0.mk (Below.refl w.heap.size w)
  have H : ((round_behind.f a0 a2).bind fun bt274 => ((exact_Cmp.f k a1_0 l1_1 a1_2 a1_3 bt274.1 bt274.2.1 bt274.2.2.1 bt274.2.2.2).bind fun t280 => (if t280 < 0 then (some true) else (if t280 = 0 then (some ((Go.bits .and .u64 a2 1) == 0)) else (some false))))) = some r := h
  clear h
  replace H := Option.bind_eq_some_iff.mp H
  obtain ⟨⟨t274, t275, t278, t279⟩, A40, H⟩ := H
  replace H : ((exact_Cmp.f k a1_0 l1_1 a1_2 a1_3 t274 t275 t278 t279).bind fun t280 => (if t280 < 0 then (some true) else (if t280 = 0 then (some ((Go.bits .and .u64 a2 1) == 0)) else (some false)))) = some r := H
  have A4 := Aside0.mk A40
  clear A40
  replace H := Option.bind_eq_some_iff.mp H
  obtain ⟨t280, A50, H⟩ := H
  replace H : (if t280 < 0 then (some true) else (if t280 = 0 then (some ((Go.bits .and .u64 a2 1) == 0)) else (some false))) = some r := H
  have A5 := Aside0.mk A50
  clear A50
  by_cases c6 : t280 < 0
  · rw [if_pos c6] at H
    have c6b0 : decide (t280 < 0) = true := decide_eq_true c6
    clear c6
    obtain rfl := Option.some.inj H
    go_enter Tryd.func36, Tryd.ntmps36
    try go_wp2_with (first | ((with_reducible refine gate_dst (N := 4) rfl ?_); refine box_event ?hg (N := 4) ?hd (cs := #[.bool a1_0, .slice A1_1 l1_1.length c1_1, .int .i64 a1_2, .int .i64 a1_3]) (t := 25) ?hr ?_; (case hd => rfl); (case hg => rfl); (case hr => first | (go_simp; done) | (go_simp; rfl)); intro gb273 hg w7 hbox hb; have n0_ := Aside0.mk (below_step (by repeat (first | (with_reducible first | exact HB.out | apply below_alloc | apply pw_below_drewN | apply below_drew1) | exact HB.out)) hb); have n1_ := Aside0.mk (hbox); have n2_ := Aside0.mk ((by rw [hg]; exact (below_size (by repeat (first | (with_reducible first | exact HB.out | apply below_alloc | apply pw_below_drewN | apply below_drew1) | exact HB.out))) : w.heap.size ≤ gb273)); have n3_ := Aside0.mk ((by rw [hg]; exact (below_size (by repeat (first | (with_reducible first | exact HB.out | apply below_alloc | apply pw_below_drewN | apply below_drew1) | exact HB.out))) : w.heap.size ≤ gb273)); clear HB; have HB := n0_; have BK273 := n1_; have GW273 := n2_; have GE273 := n3_; clear n0_ n1_ n2_ n3_; clear hb hbox hg))
    have n0_ := Aside0.mk (blk_drew BK273.out)
    have n1_ := Aside0.mk (below_drew1 HB.out)
    clear BK273
    clear HB
    have BK273 := n0_
    have HB := n1_
    clear n0_ n1_
    refine start_ (n := 6) (S := fun w' => w'.cell? ⟨gb273, 0, none⟩ = some (.bool a1_0) ∧ w'.cell? ⟨gb273, 1, none⟩ = some (.slice A1_1 l1_1.length c1_1) ∧ w'.cell? ⟨gb273, 2, none⟩ = some (.int .i64 a1_2) ∧ w'.cell? ⟨gb273, 3, none⟩ = some (.int .i64 a1_3)) (ds := []) #[false, false, false, false, false, false] (by kernel_rfl) rfl rfl ⟨(blk_cell BK273.out 0).trans rfl, (blk_cell BK273.out 1).trans rfl, (blk_cell BK273.out 2).trans rfl, (blk_cell BK273.out 3).trans rfl⟩ (fun hHeld => ?_)
    generalize w7.drew = w8 at BK273 HB hHeld ⊢
    refine pure_ (i := 1) (N := some 9) (v := ?_) (a' := ?_) #[false, true, false, false, false, false] rfl rfl (by kernel_rfl) (fun _ _ _ h => h) (Or.inl ⟨by rfl, ?_⟩) ?_ ?_
    rotate_left
    · intro w'
      go_simp
      with_reducible rfl
    rotate_left
    · simp only [Act.put, List.setIfInBounds_toArray, List.set_cons_zero, List.set_cons_succ, i64_w, i32_w]
      rfl
    refine pure_ (i := 2) (N := some 10) (v := ?_) (a' := ?_) #[false, true, true, false, false, false] rfl rfl (by kernel_rfl) (fun _ _ _ h => h) (Or.inl ⟨by rfl, ?_⟩) ?_ ?_
    rotate_left
    · intro w'
      go_simp
      with_reducible rfl
    rotate_left
    · simp only [Act.put, List.setIfInBounds_toArray, List.set_cons_zero, List.set_cons_succ, i64_w, i32_w]
      rfl
    refine take_ (i := 0) (N := some 8) (v := ?_) (a' := ?_) #[true, true, true, false, false, false] rfl rfl (by kernel_rfl) (fun _ _ _ h => h) (Or.inl ⟨by rfl, ?_⟩) hHeld ?_ ?_
    rotate_left
    · rintro w' ⟨s0, s1, s2, s3⟩
      go_simp
      with_reducible rfl
    rotate_left
    · simp only [Act.put, List.setIfInBounds_toArray, List.set_cons_zero, List.set_cons_succ, i64_w, i32_w]
      rfl
    refine one_ (i := 3) (N := some 11) #[true, true, true, true, false, false] rfl rfl (by kernel_rfl) (by decide) (fun K hK => ?_)
    refine goes_ Tryd.func54 (by kernel_rfl) rfl #[.int .i64 a0, .int .u64 a2] (by rfl) rfl rfl (by (try simp only [List.map_toArray, List.map_cons, List.map_nil]); first | done | rfl | (simp only [List.length_drop, List.length_take]; rfl)) ?_
    with_reducible refine (round_behind.calls a0 a2 t274 t275 t278 t279 _ ?side1 A4.out).mono ?_
    (case side1 => exact Glob.below HG.out (by repeat (first | (with_reducible first | exact HB.out | apply below_alloc | apply pw_below_drewN | apply below_drew1 | refine below_set ?_ GE273.out) | exact HB.out)))
    rintro e w9 ⟨v276, rfl, ho0, hb⟩
    refine ⟨_, rfl, ?_⟩
    have n0_ := Aside0.mk (Kd.V_lower (Kd.V_mono (ok' := fun k_ => k_ ≠ gb273) ho0 (fun k_ hk_ => (Kd.freshB (g := gb273) (o := .cells #[.bool a1_0, .slice A1_1 l1_1.length c1_1, .int .i64 a1_2, .int .i64 a1_3] 25 (0, 0)) (by (with_reducible repeat (first | refine blk_drewN ?_ _ | refine blk_drew ?_ | refine blk_alloc ?_ _)); exact BK273.out) k_ hk_))) (below_size (by repeat (first | (with_reducible first | exact HB.out | apply below_alloc | apply pw_below_drewN | apply below_drew1 | refine below_set ?_ GE273.out) | exact HB.out))))
    have n1_ := Aside0.mk (blk_below (g := gb273) (o := .cells #[.bool a1_0, .slice A1_1 l1_1.length c1_1, .int .i64 a1_2, .int .i64 a1_3] 25 (0, 0)) (by (with_reducible repeat (first | refine blk_drewN ?_ _ | refine blk_drew ?_ | refine blk_alloc ?_ _)); exact BK273.out) hb)
    have n2_ := Aside0.mk (below_step (by repeat (first | (with_reducible first | exact HB.out | apply below_alloc | apply pw_below_drewN | apply below_drew1 | refine below_set ?_ GE273.out) | exact HB.out)) hb)
    clear BK273
    clear HB
    have HO277 := n0_
    have BK273 := n1_
    have HB := n2_
    clear n0_ n1_ n2_
    (try clear hb)
    (try clear hb2)
    (try clear hk)
    (try clear hi)
    (try clear ho0)
    obtain ⟨Ao10, co10, eo10⟩ := Kd.V_slice HO277.out
    (first | subst eo10 | (injection eo10 with f1_ f2_ f3_; have f4_ := f1_.symm; have f5_ := f3_.symm; clear f1_ f2_ f3_; subst f4_; subst f5_))
    refine hK.out _ _ ⟨(blk_cell BK273.out 0).trans rfl, (blk_cell BK273.out 1).trans rfl, (blk_cell BK273.out 2).trans rfl, (blk_cell BK273.out 3).trans rfl⟩ (fun hHeld => ?_)
    clear hK K
    refine norm_ (a' := ?_) ?_ ?_
    rotate_left
    · show Act.put _ (some 11) _ = _
      simp only [Act.put, List.setIfInBounds_toArray, List.set_cons_zero, List.set_cons_succ, i64_w, i32_w]
      rfl
    refine one_ (i := 4) (N := some 12) #[true, true, true, true, true, false] rfl rfl (by kernel_rfl) (by decide) (fun K hK => ?_)
    refine goes_ Tryd.func19 (by kernel_rfl) rfl #[.agg #[.bool a1_0, .slice A1_1 l1_1.length c1_1, .int .i64 a1_2, .int .i64 a1_3], .agg #[.bool t274, .slice Ao10 t275.length co10, .int .i64 t278, .int .i64 t279]] (by rfl) rfl rfl (by (try simp only [List.map_toArray, List.map_cons, List.map_nil]); first | done | rfl | (simp only [List.length_drop, List.length_take]; rfl)) ?_
    with_reducible refine (exact_Cmp.calls k a1_0 _ _ l1_1 a1_2 a1_3 t274 _ _ t275 t278 t279 t280 _ ?side1 ?side2 ?side3 ?side4 A5.out).mono ?_
    (case side1 => repeat (first | exact (Kd.C_below HR1_1.out HB.out) | (with_reducible refine Kd.C_alloc ?_ _) | (with_reducible refine Kd.C_drewN ?_ _) | (with_reducible refine Kd.C_drew ?_)))
    (case side2 => exact HC1_1.out)
    (case side3 => repeat (first | exact (Kd.V_reads' HO277.out).2.2 | (with_reducible refine Kd.C_alloc ?_ _) | (with_reducible refine Kd.C_drewN ?_ _) | (with_reducible refine Kd.C_drew ?_)))
    (case side4 => exact (Kd.V_reads' HO277.out).2.1)
    rintro e w11 ⟨rfl, hb⟩
    refine ⟨_, rfl, ?_⟩
    have n0_ := Aside0.mk (Kd.V_below (by (with_reducible repeat (first | apply Kd.V_alloc | apply Kd.V_drewN | apply Kd.V_drew)); exact HO277.out) hb)
    have n1_ := Aside0.mk (blk_below (g := gb273) (o := .cells #[.bool a1_0, .slice A1_1 l1_1.length c1_1, .int .i64 a1_2, .int .i64 a1_3] 25 (0, 0)) (by (with_reducible repeat (first | refine blk_drewN ?_ _ | refine blk_drew ?_ | refine blk_alloc ?_ _)); exact BK273.out) hb)
    have n2_ := Aside0.mk (below_step (by repeat (first | (with_reducible first | exact HB.out | apply below_alloc | apply pw_below_drewN | apply below_drew1 | refine below_set ?_ GE273.out) | exact HB.out)) hb)
    clear HO277
    clear BK273
    clear HB
    have HO277 := n0_
    have BK273 := n1_
    have HB := n2_
    clear n0_ n1_ n2_
    (try clear hb)
    (try clear hb2)
    (try clear hk)
    (try clear hi)
    refine hK.out _ _ ⟨(blk_cell BK273.out 0).trans rfl, (blk_cell BK273.out 1).trans rfl, (blk_cell BK273.out 2).trans rfl, (blk_cell BK273.out 3).trans rfl⟩ (fun hHeld => ?_)
    clear hK K
    refine norm_ (a' := ?_) ?_ ?_
    rotate_left
    · show Act.put _ (some 12) _ = _
      simp only [Act.put, List.setIfInBounds_toArray, List.set_cons_zero, List.set_cons_succ, i64_w, i32_w]
      rfl
    refine pure_ (i := 5) (N := some 7) (v := ?_) (a' := ?_) #[true, true, true, true, true, true] rfl rfl (by kernel_rfl) (fun _ _ _ h => h) (Or.inl ⟨by rfl, ?_⟩) ?_ ?_
    rotate_left
    · intro w'
      go_simp
      with_reducible rfl
    rotate_left
    · simp only [Act.put, List.setIfInBounds_toArray, List.set_cons_zero, List.set_cons_succ, i64_w, i32_w]
      rfl
    refine done_ (by kernel_rfl) ?_
    try go_wp2
    go_ret
    exact ⟨by first | rfl | (simp [errW_none, errW_some] <;> rfl) | (simp [*, errW_none, errW_some] <;> rfl), by repeat (first | (with_reducible first | exact HB.out | apply below_alloc | apply pw_below_drewN | apply below_drew1 | refine below_set ?_ GE273.out) | exact HB.out)⟩
  · rw [if_neg c6] at H
    have c6b0 : decide (t280 < 0) = false := decide_eq_false c6
    clear c6
    by_cases c12 : t280 = 0
    · rw [if_pos c12] at H
      have c12b0 : (t280 == 0) = true := beq_iff_eq.mpr c12
      have c12b1 : (t280 != 0) = false := bne_eq_false_iff_eq.mpr c12
      clear c12
      obtain rfl := Option.some.inj H
      go_enter Tryd.func36, Tryd.ntmps36
      try go_wp2_with (first | ((with_reducible refine gate_dst (N := 4) rfl ?_); refine box_event ?hg (N := 4) ?hd (cs := #[.bool a1_0, .slice A1_1 l1_1.length c1_1, .int .i64 a1_2, .int .i64 a1_3]) (t := 25) ?hr ?_; (case hd => rfl); (case hg => rfl); (case hr => first | (go_simp; done) | (go_simp; rfl)); intro gb273 hg w13 hbox hb; have n0_ := Aside0.mk (below_step (by repeat (first | (with_reducible first | exact HB.out | apply below_alloc | apply pw_below_drewN | apply below_drew1) | exact HB.out)) hb); have n1_ := Aside0.mk (hbox); have n2_ := Aside0.mk ((by rw [hg]; exact (below_size (by repeat (first | (with_reducible first | exact HB.out | apply below_alloc | apply pw_below_drewN | apply below_drew1) | exact HB.out))) : w.heap.size ≤ gb273)); have n3_ := Aside0.mk ((by rw [hg]; exact (below_size (by repeat (first | (with_reducible first | exact HB.out | apply below_alloc | apply pw_below_drewN | apply below_drew1) | exact HB.out))) : w.heap.size ≤ gb273)); clear HB; have HB := n0_; have BK273 := n1_; have GW273 := n2_; have GE273 := n3_; clear n0_ n1_ n2_ n3_; clear hb hbox hg))
      have n0_ := Aside0.mk (blk_drew BK273.out)
      have n1_ := Aside0.mk (below_drew1 HB.out)
      clear BK273
      clear HB
      have BK273 := n0_
      have HB := n1_
      clear n0_ n1_
      refine start_ (n := 6) (S := fun w' => w'.cell? ⟨gb273, 0, none⟩ = some (.bool a1_0) ∧ w'.cell? ⟨gb273, 1, none⟩ = some (.slice A1_1 l1_1.length c1_1) ∧ w'.cell? ⟨gb273, 2, none⟩ = some (.int .i64 a1_2) ∧ w'.cell? ⟨gb273, 3, none⟩ = some (.int .i64 a1_3)) (ds := []) #[false, false, false, false, false, false] (by kernel_rfl) rfl rfl ⟨(blk_cell BK273.out 0).trans rfl, (blk_cell BK273.out 1).trans rfl, (blk_cell BK273.out 2).trans rfl, (blk_cell BK273.out 3).trans rfl⟩ (fun hHeld => ?_)
      generalize w13.drew = w14 at BK273 HB hHeld ⊢
      refine pure_ (i := 1) (N := some 9) (v := ?_) (a' := ?_) #[false, true, false, false, false, false] rfl rfl (by kernel_rfl) (fun _ _ _ h => h) (Or.inl ⟨by rfl, ?_⟩) ?_ ?_
      rotate_left
      · intro w'
        go_simp
        with_reducible rfl
      rotate_left
      · simp only [Act.put, List.setIfInBounds_toArray, List.set_cons_zero, List.set_cons_succ, i64_w, i32_w]
        rfl
      refine pure_ (i := 2) (N := some 10) (v := ?_) (a' := ?_) #[false, true, true, false, false, false] rfl rfl (by kernel_rfl) (fun _ _ _ h => h) (Or.inl ⟨by rfl, ?_⟩) ?_ ?_
      rotate_left
      · intro w'
        go_simp
        with_reducible rfl
      rotate_left
      · simp only [Act.put, List.setIfInBounds_toArray, List.set_cons_zero, List.set_cons_succ, i64_w, i32_w]
        rfl
      refine take_ (i := 0) (N := some 8) (v := ?_) (a' := ?_) #[true, true, true, false, false, false] rfl rfl (by kernel_rfl) (fun _ _ _ h => h) (Or.inl ⟨by rfl, ?_⟩) hHeld ?_ ?_
      rotate_left
      · rintro w' ⟨s0, s1, s2, s3⟩
        go_simp
        with_reducible rfl
      rotate_left
      · simp only [Act.put, List.setIfInBounds_toArray, List.set_cons_zero, List.set_cons_succ, i64_w, i32_w]
        rfl
      refine one_ (i := 3) (N := some 11) #[true, true, true, true, false, false] rfl rfl (by kernel_rfl) (by decide) (fun K hK => ?_)
      refine goes_ Tryd.func54 (by kernel_rfl) rfl #[.int .i64 a0, .int .u64 a2] (by rfl) rfl rfl (by (try simp only [List.map_toArray, List.map_cons, List.map_nil]); first | done | rfl | (simp only [List.length_drop, List.length_take]; rfl)) ?_
      with_reducible refine (round_behind.calls a0 a2 t274 t275 t278 t279 _ ?side1 A4.out).mono ?_
      (case side1 => exact Glob.below HG.out (by repeat (first | (with_reducible first | exact HB.out | apply below_alloc | apply pw_below_drewN | apply below_drew1 | refine below_set ?_ GE273.out) | exact HB.out)))
      rintro e w15 ⟨v276, rfl, ho0, hb⟩
      refine ⟨_, rfl, ?_⟩
      have n0_ := Aside0.mk (Kd.V_lower (Kd.V_mono (ok' := fun k_ => k_ ≠ gb273) ho0 (fun k_ hk_ => (Kd.freshB (g := gb273) (o := .cells #[.bool a1_0, .slice A1_1 l1_1.length c1_1, .int .i64 a1_2, .int .i64 a1_3] 25 (0, 0)) (by (with_reducible repeat (first | refine blk_drewN ?_ _ | refine blk_drew ?_ | refine blk_alloc ?_ _)); exact BK273.out) k_ hk_))) (below_size (by repeat (first | (with_reducible first | exact HB.out | apply below_alloc | apply pw_below_drewN | apply below_drew1 | refine below_set ?_ GE273.out) | exact HB.out))))
      have n1_ := Aside0.mk (blk_below (g := gb273) (o := .cells #[.bool a1_0, .slice A1_1 l1_1.length c1_1, .int .i64 a1_2, .int .i64 a1_3] 25 (0, 0)) (by (with_reducible repeat (first | refine blk_drewN ?_ _ | refine blk_drew ?_ | refine blk_alloc ?_ _)); exact BK273.out) hb)
      have n2_ := Aside0.mk (below_step (by repeat (first | (with_reducible first | exact HB.out | apply below_alloc | apply pw_below_drewN | apply below_drew1 | refine below_set ?_ GE273.out) | exact HB.out)) hb)
      clear BK273
      clear HB
      have HO277 := n0_
      have BK273 := n1_
      have HB := n2_
      clear n0_ n1_ n2_
      (try clear hb)
      (try clear hb2)
      (try clear hk)
      (try clear hi)
      (try clear ho0)
      obtain ⟨Ao16, co16, eo16⟩ := Kd.V_slice HO277.out
      (first | subst eo16 | (injection eo16 with f1_ f2_ f3_; have f4_ := f1_.symm; have f5_ := f3_.symm; clear f1_ f2_ f3_; subst f4_; subst f5_))
      refine hK.out _ _ ⟨(blk_cell BK273.out 0).trans rfl, (blk_cell BK273.out 1).trans rfl, (blk_cell BK273.out 2).trans rfl, (blk_cell BK273.out 3).trans rfl⟩ (fun hHeld => ?_)
      clear hK K
      refine norm_ (a' := ?_) ?_ ?_
      rotate_left
      · show Act.put _ (some 11) _ = _
        simp only [Act.put, List.setIfInBounds_toArray, List.set_cons_zero, List.set_cons_succ, i64_w, i32_w]
        rfl
      refine one_ (i := 4) (N := some 12) #[true, true, true, true, true, false] rfl rfl (by kernel_rfl) (by decide) (fun K hK => ?_)
      refine goes_ Tryd.func19 (by kernel_rfl) rfl #[.agg #[.bool a1_0, .slice A1_1 l1_1.length c1_1, .int .i64 a1_2, .int .i64 a1_3], .agg #[.bool t274, .slice Ao16 t275.length co16, .int .i64 t278, .int .i64 t279]] (by rfl) rfl rfl (by (try simp only [List.map_toArray, List.map_cons, List.map_nil]); first | done | rfl | (simp only [List.length_drop, List.length_take]; rfl)) ?_
      with_reducible refine (exact_Cmp.calls k a1_0 _ _ l1_1 a1_2 a1_3 t274 _ _ t275 t278 t279 t280 _ ?side1 ?side2 ?side3 ?side4 A5.out).mono ?_
      (case side1 => repeat (first | exact (Kd.C_below HR1_1.out HB.out) | (with_reducible refine Kd.C_alloc ?_ _) | (with_reducible refine Kd.C_drewN ?_ _) | (with_reducible refine Kd.C_drew ?_)))
      (case side2 => exact HC1_1.out)
      (case side3 => repeat (first | exact (Kd.V_reads' HO277.out).2.2 | (with_reducible refine Kd.C_alloc ?_ _) | (with_reducible refine Kd.C_drewN ?_ _) | (with_reducible refine Kd.C_drew ?_)))
      (case side4 => exact (Kd.V_reads' HO277.out).2.1)
      rintro e w17 ⟨rfl, hb⟩
      refine ⟨_, rfl, ?_⟩
      have n0_ := Aside0.mk (Kd.V_below (by (with_reducible repeat (first | apply Kd.V_alloc | apply Kd.V_drewN | apply Kd.V_drew)); exact HO277.out) hb)
      have n1_ := Aside0.mk (blk_below (g := gb273) (o := .cells #[.bool a1_0, .slice A1_1 l1_1.length c1_1, .int .i64 a1_2, .int .i64 a1_3] 25 (0, 0)) (by (with_reducible repeat (first | refine blk_drewN ?_ _ | refine blk_drew ?_ | refine blk_alloc ?_ _)); exact BK273.out) hb)
      have n2_ := Aside0.mk (below_step (by repeat (first | (with_reducible first | exact HB.out | apply below_alloc | apply pw_below_drewN | apply below_drew1 | refine below_set ?_ GE273.out) | exact HB.out)) hb)
      clear HO277
      clear BK273
      clear HB
      have HO277 := n0_
      have BK273 := n1_
      have HB := n2_
      clear n0_ n1_ n2_
      (try clear hb)
      (try clear hb2)
      (try clear hk)
      (try clear hi)
      refine hK.out _ _ ⟨(blk_cell BK273.out 0).trans rfl, (blk_cell BK273.out 1).trans rfl, (blk_cell BK273.out 2).trans rfl, (blk_cell BK273.out 3).trans rfl⟩ (fun hHeld => ?_)
      clear hK K
      refine norm_ (a' := ?_) ?_ ?_
      rotate_left
      · show Act.put _ (some 12) _ = _
        simp only [Act.put, List.setIfInBounds_toArray, List.set_cons_zero, List.set_cons_succ, i64_w, i32_w]
        rfl
      refine pure_ (i := 5) (N := some 7) (v := ?_) (a' := ?_) #[true, true, true, true, true, true] rfl rfl (by kernel_rfl) (fun _ _ _ h => h) (Or.inl ⟨by rfl, ?_⟩) ?_ ?_
      rotate_left
      · intro w'
        go_simp
        with_reducible rfl
      rotate_left
      · simp only [Act.put, List.setIfInBounds_toArray, List.set_cons_zero, List.set_cons_succ, i64_w, i32_w]
        rfl
      refine done_ (by kernel_rfl) ?_
      try go_wp2
      go_ret
      exact ⟨by first | rfl | (simp [errW_none, errW_some] <;> rfl) | (simp [*, errW_none, errW_some] <;> rfl), by repeat (first | (with_reducible first | exact HB.out | apply below_alloc | apply pw_below_drewN | apply below_drew1 | refine below_set ?_ GE273.out) | exact HB.out)⟩
    · rw [if_neg c12] at H
      have c12b0 : (t280 == 0) = false := beq_eq_false_iff_ne.mpr c12
      have c12b1 : (t280 != 0) = true := bne_iff_ne.mpr c12
      obtain rfl := Option.some.inj H
      go_enter Tryd.func36, Tryd.ntmps36
      try go_wp2_with (first | ((with_reducible refine gate_dst (N := 4) rfl ?_); refine box_event ?hg (N := 4) ?hd (cs := #[.bool a1_0, .slice A1_1 l1_1.length c1_1, .int .i64 a1_2, .int .i64 a1_3]) (t := 25) ?hr ?_; (case hd => rfl); (case hg => rfl); (case hr => first | (go_simp; done) | (go_simp; rfl)); intro gb273 hg w18 hbox hb; have n0_ := Aside0.mk (below_step (by repeat (first | (with_reducible first | exact HB.out | apply below_alloc | apply pw_below_drewN | apply below_drew1) | exact HB.out)) hb); have n1_ := Aside0.mk (hbox); have n2_ := Aside0.mk ((by rw [hg]; exact (below_size (by repeat (first | (with_reducible first | exact HB.out | apply below_alloc | apply pw_below_drewN | apply below_drew1) | exact HB.out))) : w.heap.size ≤ gb273)); have n3_ := Aside0.mk ((by rw [hg]; exact (below_size (by repeat (first | (with_reducible first | exact HB.out | apply below_alloc | apply pw_below_drewN | apply below_drew1) | exact HB.out))) : w.heap.size ≤ gb273)); clear HB; have HB := n0_; have BK273 := n1_; have GW273 := n2_; have GE273 := n3_; clear n0_ n1_ n2_ n3_; clear hb hbox hg))
      have n0_ := Aside0.mk (blk_drew BK273.out)
      have n1_ := Aside0.mk (below_drew1 HB.out)
      clear BK273
      clear HB
      have BK273 := n0_
      have HB := n1_
      clear n0_ n1_
      refine start_ (n := 6) (S := fun w' => w'.cell? ⟨gb273, 0, none⟩ = some (.bool a1_0) ∧ w'.cell? ⟨gb273, 1, none⟩ = some (.slice A1_1 l1_1.length c1_1) ∧ w'.cell? ⟨gb273, 2, none⟩ = some (.int .i64 a1_2) ∧ w'.cell? ⟨gb273, 3, none⟩ = some (.int .i64 a1_3)) (ds := []) #[false, false, false, false, false, false] (by kernel_rfl) rfl rfl ⟨(blk_cell BK273.out 0).trans rfl, (blk_cell BK273.out 1).trans rfl, (blk_cell BK273.out 2).trans rfl, (blk_cell BK273.out 3).trans rfl⟩ (fun hHeld => ?_)
      generalize w18.drew = w19 at BK273 HB hHeld ⊢
      refine pure_ (i := 1) (N := some 9) (v := ?_) (a' := ?_) #[false, true, false, false, false, false] rfl rfl (by kernel_rfl) (fun _ _ _ h => h) (Or.inl ⟨by rfl, ?_⟩) ?_ ?_
      rotate_left
      · intro w'
        go_simp
        with_reducible rfl
      rotate_left
      · simp only [Act.put, List.setIfInBounds_toArray, List.set_cons_zero, List.set_cons_succ, i64_w, i32_w]
        rfl
      refine pure_ (i := 2) (N := some 10) (v := ?_) (a' := ?_) #[false, true, true, false, false, false] rfl rfl (by kernel_rfl) (fun _ _ _ h => h) (Or.inl ⟨by rfl, ?_⟩) ?_ ?_
      rotate_left
      · intro w'
        go_simp
        with_reducible rfl
      rotate_left
      · simp only [Act.put, List.setIfInBounds_toArray, List.set_cons_zero, List.set_cons_succ, i64_w, i32_w]
        rfl
      refine take_ (i := 0) (N := some 8) (v := ?_) (a' := ?_) #[true, true, true, false, false, false] rfl rfl (by kernel_rfl) (fun _ _ _ h => h) (Or.inl ⟨by rfl, ?_⟩) hHeld ?_ ?_
      rotate_left
      · rintro w' ⟨s0, s1, s2, s3⟩
        go_simp
        with_reducible rfl
      rotate_left
      · simp only [Act.put, List.setIfInBounds_toArray, List.set_cons_zero, List.set_cons_succ, i64_w, i32_w]
        rfl
      refine one_ (i := 3) (N := some 11) #[true, true, true, true, false, false] rfl rfl (by kernel_rfl) (by decide) (fun K hK => ?_)
      refine goes_ Tryd.func54 (by kernel_rfl) rfl #[.int .i64 a0, .int .u64 a2] (by rfl) rfl rfl (by (try simp only [List.map_toArray, List.map_cons, List.map_nil]); first | done | rfl | (simp only [List.length_drop, List.length_take]; rfl)) ?_
      with_reducible refine (round_behind.calls a0 a2 t274 t275 t278 t279 _ ?side1 A4.out).mono ?_
      (case side1 => exact Glob.below HG.out (by repeat (first | (with_reducible first | exact HB.out | apply below_alloc | apply pw_below_drewN | apply below_drew1 | refine below_set ?_ GE273.out) | exact HB.out)))
      rintro e w20 ⟨v276, rfl, ho0, hb⟩
      refine ⟨_, rfl, ?_⟩
      have n0_ := Aside0.mk (Kd.V_lower (Kd.V_mono (ok' := fun k_ => k_ ≠ gb273) ho0 (fun k_ hk_ => (Kd.freshB (g := gb273) (o := .cells #[.bool a1_0, .slice A1_1 l1_1.length c1_1, .int .i64 a1_2, .int .i64 a1_3] 25 (0, 0)) (by (with_reducible repeat (first | refine blk_drewN ?_ _ | refine blk_drew ?_ | refine blk_alloc ?_ _)); exact BK273.out) k_ hk_))) (below_size (by repeat (first | (with_reducible first | exact HB.out | apply below_alloc | apply pw_below_drewN | apply below_drew1 | refine below_set ?_ GE273.out) | exact HB.out))))
      have n1_ := Aside0.mk (blk_below (g := gb273) (o := .cells #[.bool a1_0, .slice A1_1 l1_1.length c1_1, .int .i64 a1_2, .int .i64 a1_3] 25 (0, 0)) (by (with_reducible repeat (first | refine blk_drewN ?_ _ | refine blk_drew ?_ | refine blk_alloc ?_ _)); exact BK273.out) hb)
      have n2_ := Aside0.mk (below_step (by repeat (first | (with_reducible first | exact HB.out | apply below_alloc | apply pw_below_drewN | apply below_drew1 | refine below_set ?_ GE273.out) | exact HB.out)) hb)
      clear BK273
      clear HB
      have HO277 := n0_
      have BK273 := n1_
      have HB := n2_
      clear n0_ n1_ n2_
      (try clear hb)
      (try clear hb2)
      (try clear hk)
      (try clear hi)
      (try clear ho0)
      obtain ⟨Ao21, co21, eo21⟩ := Kd.V_slice HO277.out
      (first | subst eo21 | (injection eo21 with f1_ f2_ f3_; have f4_ := f1_.symm; have f5_ := f3_.symm; clear f1_ f2_ f3_; subst f4_; subst f5_))
      refine hK.out _ _ ⟨(blk_cell BK273.out 0).trans rfl, (blk_cell BK273.out 1).trans rfl, (blk_cell BK273.out 2).trans rfl, (blk_cell BK273.out 3).trans rfl⟩ (fun hHeld => ?_)
      clear hK K
      refine norm_ (a' := ?_) ?_ ?_
      rotate_left
      · show Act.put _ (some 11) _ = _
        simp only [Act.put, List.setIfInBounds_toArray, List.set_cons_zero, List.set_cons_succ, i64_w, i32_w]
        rfl
      refine one_ (i := 4) (N := some 12) #[true, true, true, true, true, false] rfl rfl (by kernel_rfl) (by decide) (fun K hK => ?_)
      refine goes_ Tryd.func19 (by kernel_rfl) rfl #[.agg #[.bool a1_0, .slice A1_1 l1_1.length c1_1, .int .i64 a1_2, .int .i64 a1_3], .agg #[.bool t274, .slice Ao21 t275.length co21, .int .i64 t278, .int .i64 t279]] (by rfl) rfl rfl (by (try simp only [List.map_toArray, List.map_cons, List.map_nil]); first | done | rfl | (simp only [List.length_drop, List.length_take]; rfl)) ?_
      with_reducible refine (exact_Cmp.calls k a1_0 _ _ l1_1 a1_2 a1_3 t274 _ _ t275 t278 t279 t280 _ ?side1 ?side2 ?side3 ?side4 A5.out).mono ?_
      (case side1 => repeat (first | exact (Kd.C_below HR1_1.out HB.out) | (with_reducible refine Kd.C_alloc ?_ _) | (with_reducible refine Kd.C_drewN ?_ _) | (with_reducible refine Kd.C_drew ?_)))
      (case side2 => exact HC1_1.out)
      (case side3 => repeat (first | exact (Kd.V_reads' HO277.out).2.2 | (with_reducible refine Kd.C_alloc ?_ _) | (with_reducible refine Kd.C_drewN ?_ _) | (with_reducible refine Kd.C_drew ?_)))
      (case side4 => exact (Kd.V_reads' HO277.out).2.1)
      rintro e w22 ⟨rfl, hb⟩
      refine ⟨_, rfl, ?_⟩
      have n0_ := Aside0.mk (Kd.V_below (by (with_reducible repeat (first | apply Kd.V_alloc | apply Kd.V_drewN | apply Kd.V_drew)); exact HO277.out) hb)
      have n1_ := Aside0.mk (blk_below (g := gb273) (o := .cells #[.bool a1_0, .slice A1_1 l1_1.length c1_1, .int .i64 a1_2, .int .i64 a1_3] 25 (0, 0)) (by (with_reducible repeat (first | refine blk_drewN ?_ _ | refine blk_drew ?_ | refine blk_alloc ?_ _)); exact BK273.out) hb)
      have n2_ := Aside0.mk (below_step (by repeat (first | (with_reducible first | exact HB.out | apply below_alloc | apply pw_below_drewN | apply below_drew1 | refine below_set ?_ GE273.out) | exact HB.out)) hb)
      clear HO277
      clear BK273
      clear HB
      have HO277 := n0_
      have BK273 := n1_
      have HB := n2_
      clear n0_ n1_ n2_
      (try clear hb)
      (try clear hb2)
      (try clear hk)
      (try clear hi)
      refine hK.out _ _ ⟨(blk_cell BK273.out 0).trans rfl, (blk_cell BK273.out 1).trans rfl, (blk_cell BK273.out 2).trans rfl, (blk_cell BK273.out 3).trans rfl⟩ (fun hHeld => ?_)
      clear hK K
      refine norm_ (a' := ?_) ?_ ?_
      rotate_left
      · show Act.put _ (some 12) _ = _
        simp only [Act.put, List.setIfInBounds_toArray, List.set_cons_zero, List.set_cons_succ, i64_w, i32_w]
        rfl
      refine pure_ (i := 5) (N := some 7) (v := ?_) (a' := ?_) #[true, true, true, true, true, true] rfl rfl (by kernel_rfl) (fun _ _ _ h => h) (Or.inl ⟨by rfl, ?_⟩) ?_ ?_
      rotate_left
      · intro w'
        go_simp
        with_reducible rfl
      rotate_left
      · simp only [Act.put, List.setIfInBounds_toArray, List.set_cons_zero, List.set_cons_succ, i64_w, i32_w]
        rfl
      refine done_ (by kernel_rfl) ?_
      try go_wp2
      go_ret
      exact ⟨by first | rfl | (simp [errW_none, errW_some] <;> rfl) | (simp [*, errW_none, errW_some] <;> rfl), by repeat (first | (with_reducible first | exact HB.out | apply below_alloc | apply pw_below_drewN | apply below_drew1 | refine below_set ?_ GE273.out) | exact HB.out)⟩

def round_Nearest.l0 : Nat → Int → Int → Int → Int → Bool → List Int → Int → Int → Int → Int → Int → Int → Int → Int → Int → Option (Int × Bool × Int)
  | 0, _, _, _, _, _, _, _, _, _, _, _, _, _, _, _ => none
  | k + 1, x0, x9, x13, x14, x282000, x282001, x282002, x282003, x295000, x295001, x295002, x295003, x295004, x295005, x295006 => if x14 > 0 then (if (IntKind.u64.wrap (x13 + x14)) ≤ x9 then ((round_within.f k x0 x282000 x282001 x282002 x282003 (IntKind.u64.wrap ((IntKind.u64.wrap (x13 + x14)) - 1))).bind fun t295 => (if t295 = true then (round_Nearest.l0 k x0 x9 x13 (x14 / 2) x282000 x282001 x282002 x282003 x295000 x295001 x295002 x295003 x295004 x295005 x295006) else (round_Nearest.l0 k x0 x9 (IntKind.u64.wrap (x13 + x14)) (x14 / 2) x282000 x282001 x282002 x282003 x295000 x295001 x295002 x295003 x295004 x295005 x295006))) else (round_Nearest.l0 k x0 x9 x13 (x14 / 2) x282000 x282001 x282002 x282003 x295000 x295001 x295002 x295003 x295004 x295005 x295006)) else (if x295000 = 1 then (if x13 = 0 then ((round_zero.f x282000 x282001 x282002 x282003).bind fun t296 => (if t296 = true then (some (x13, false, 0)) else (some (1, false, 0)))) else (some (x13, false, 0))) else (some (x13, false, 0)))
def round_Nearest.f (k : Nat) (a0 : Int) (a1 : Bool) (a2_0 : Bool) (l2_1 : List Int) (a2_2 : Int) (a2_3 : Int) : Option (Int × Bool × Int) := (value_Most.f a0 a1).bind fun bt282 => ((exact_Right.f a2_0 l2_1 a2_2 a2_3).bind fun t284 => (if t284 = true then (if bt282.2 = 0 then ((round_within.f k a0 a2_0 l2_1 a2_2 a2_3 bt282.1).bind fun t285 => (if t285 = true then ((forms_Of.f a0).bind fun bt286 => (if 0 ≤ (wrap64 (bt286.2.1 - 1)) then (round_Nearest.l0 k a0 bt282.1 0 (shl .u64 1 (wrap64 (bt286.2.1 - 1))) a2_0 l2_1 a2_2 a2_3 bt286.1 bt286.2.1 bt286.2.2.1 bt286.2.2.2.1 bt286.2.2.2.2.1 bt286.2.2.2.2.2.1 bt286.2.2.2.2.2.2.1) else (none))) else (some (bt282.1, true, 0)))) else (some (0, false, bt282.2))) else (some (0, false, 1))))
set_option maxHeartbeats 8000000 in
set_option maxRecDepth 100000 in
theorem round_Nearest.calls (k : Nat) (a0 : Int) (a1 : Bool) (a2_0 : Bool) (A2_1 : Option Addr) (c2_1 : Nat) (l2_1 : List Int) (a2_2 : Int) (a2_3 : Int) (r1 : Int) (r2 : Bool) (r3 : Int) (w : World) (hG : Glob w) (hr2_1 : Kd.C (Kd.int .u64) w A2_1 l2_1.length l2_1) (hc2_1 : l2_1.length ≤ c2_1) (h : round_Nearest.f k a0 a1 a2_0 l2_1 a2_2 a2_3 = some (r1, r2, r3)) :
    Calls Tryd.prog 14 #[.int .i64 a0, .bool a1, .agg #[.bool a2_0, .slice A2_1 l2_1.length c2_1, .int .i64 a2_2, .int .i64 a2_3]] w fun e w' => e = .returned (.tuple #[.int .u64 r1, .bool r2, .int .i64 r3]) ∧ Below w.heap.size w w' := by
  have hu25 := Tryd.underlying25
  have hu51 := Tryd.underlying51
  have HR2_1 := Aside0.mk hr2_1
  have HC2_1 := Aside0.mk hc2_1
  clear hr2_1 hc2_1
  have HG := Aside0.mk hG
  clear hG
  have HB := Aside0.mk (Below.refl w.heap.size w)
  have H : ((value_Most.f a0 a1).bind fun bt282 => ((exact_Right.f a2_0 l2_1 a2_2 a2_3).bind fun t284 => (if t284 = true then (if bt282.2 = 0 then ((round_within.f k a0 a2_0 l2_1 a2_2 a2_3 bt282.1).bind fun t285 => (if t285 = true then ((forms_Of.f a0).bind fun bt286 => (if 0 ≤ (wrap64 (bt286.2.1 - 1)) then (round_Nearest.l0 k a0 bt282.1 0 (shl .u64 1 (wrap64 (bt286.2.1 - 1))) a2_0 l2_1 a2_2 a2_3 bt286.1 bt286.2.1 bt286.2.2.1 bt286.2.2.2.1 bt286.2.2.2.2.1 bt286.2.2.2.2.2.1 bt286.2.2.2.2.2.2.1) else (none))) else (some (bt282.1, true, 0)))) else (some (0, false, bt282.2))) else (some (0, false, 1))))) = some (r1, r2, r3) := h
  clear h
  replace H := Option.bind_eq_some_iff.mp H
  obtain ⟨⟨t282, t283⟩, A40, H⟩ := H
  replace H : ((exact_Right.f a2_0 l2_1 a2_2 a2_3).bind fun t284 => (if t284 = true then (if t283 = 0 then ((round_within.f k a0 a2_0 l2_1 a2_2 a2_3 t282).bind fun t285 => (if t285 = true then ((forms_Of.f a0).bind fun bt286 => (if 0 ≤ (wrap64 (bt286.2.1 - 1)) then (round_Nearest.l0 k a0 t282 0 (shl .u64 1 (wrap64 (bt286.2.1 - 1))) a2_0 l2_1 a2_2 a2_3 bt286.1 bt286.2.1 bt286.2.2.1 bt286.2.2.2.1 bt286.2.2.2.2.1 bt286.2.2.2.2.2.1 bt286.2.2.2.2.2.2.1) else (none))) else (some (t282, true, 0)))) else (some (0, false, t283))) else (some (0, false, 1)))) = some (r1, r2, r3) := H
  have A4 := Aside0.mk A40
  clear A40
  replace H := Option.bind_eq_some_iff.mp H
  obtain ⟨t284, A50, H⟩ := H
  replace H : (if t284 = true then (if t283 = 0 then ((round_within.f k a0 a2_0 l2_1 a2_2 a2_3 t282).bind fun t285 => (if t285 = true then ((forms_Of.f a0).bind fun bt286 => (if 0 ≤ (wrap64 (bt286.2.1 - 1)) then (round_Nearest.l0 k a0 t282 0 (shl .u64 1 (wrap64 (bt286.2.1 - 1))) a2_0 l2_1 a2_2 a2_3 bt286.1 bt286.2.1 bt286.2.2.1 bt286.2.2.2.1 bt286.2.2.2.2.1 bt286.2.2.2.2.2.1 bt286.2.2.2.2.2.2.1) else (none))) else (some (t282, true, 0)))) else (some (0, false, t283))) else (some (0, false, 1))) = some (r1, r2, r3) := H
  have A5 := Aside0.mk A50
  clear A50
  by_cases c6 : t284 = true
  · subst c6
    have H1 : (if t283 = 0 then ((round_within.f k a0 a2_0 l2_1 a2_2 a2_3 t282).bind fun t285 => (if t285 = true then ((forms_Of.f a0).bind fun bt286 => (if 0 ≤ (wrap64 (bt286.2.1 - 1)) then (round_Nearest.l0 k a0 t282 0 (shl .u64 1 (wrap64 (bt286.2.1 - 1))) a2_0 l2_1 a2_2 a2_3 bt286.1 bt286.2.1 bt286.2.2.1 bt286.2.2.2.1 bt286.2.2.2.2.1 bt286.2.2.2.2.2.1 bt286.2.2.2.2.2.2.1) else (none))) else (some (t282, true, 0)))) else (some (0, false, t283))) = some (r1, r2, r3) := by rw [if_pos rfl] at H; exact H
    clear H
    have H := H1
    clear H1
    by_cases c7 : t283 = 0
    · rw [if_pos c7] at H
      have c7b0 : (t283 == 0) = true := beq_iff_eq.mpr c7
      have c7b1 : (t283 != 0) = false := bne_eq_false_iff_eq.mpr c7
      clear c7
      replace H := Option.bind_eq_some_iff.mp H
      obtain ⟨t285, A80, H⟩ := H
      replace H : (if t285 = true then ((forms_Of.f a0).bind fun bt286 => (if 0 ≤ (wrap64 (bt286.2.1 - 1)) then (round_Nearest.l0 k a0 t282 0 (shl .u64 1 (wrap64 (bt286.2.1 - 1))) a2_0 l2_1 a2_2 a2_3 bt286.1 bt286.2.1 bt286.2.2.1 bt286.2.2.2.1 bt286.2.2.2.2.1 bt286.2.2.2.2.2.1 bt286.2.2.2.2.2.2.1) else (none))) else (some (t282, true, 0))) = some (r1, r2, r3) := H
      have A8 := Aside0.mk A80
      clear A80
      by_cases c9 : t285 = true
      · subst c9
        have H1 : ((forms_Of.f a0).bind fun bt286 => (if 0 ≤ (wrap64 (bt286.2.1 - 1)) then (round_Nearest.l0 k a0 t282 0 (shl .u64 1 (wrap64 (bt286.2.1 - 1))) a2_0 l2_1 a2_2 a2_3 bt286.1 bt286.2.1 bt286.2.2.1 bt286.2.2.2.1 bt286.2.2.2.2.1 bt286.2.2.2.2.2.1 bt286.2.2.2.2.2.2.1) else (none))) = some (r1, r2, r3) := by rw [if_pos rfl] at H; exact H
        clear H
        have H := H1
        clear H1
        replace H := Option.bind_eq_some_iff.mp H
        obtain ⟨⟨t286, t287, t288, t289, t290, t291, t292, t293⟩, A100, H⟩ := H
        replace H : (if 0 ≤ (wrap64 (t287 - 1)) then (round_Nearest.l0 k a0 t282 0 (shl .u64 1 (wrap64 (t287 - 1))) a2_0 l2_1 a2_2 a2_3 t286 t287 t288 t289 t290 t291 t292) else (none)) = some (r1, r2, r3) := H
        have A10 := Aside0.mk A100
        clear A100
        obtain ⟨ji11, hji11⟩ : ∃ j_ : Int, (wrap64 (t287 - 1)) = j_ := ⟨_, rfl⟩
        replace H : (if 0 ≤ (ji11) then (round_Nearest.l0 k a0 t282 0 (shl .u64 1 (ji11)) a2_0 l2_1 a2_2 a2_3 t286 t287 t288 t289 t290 t291 t292) else (none)) = some (r1, r2, r3) := by first | (rw [hji11] at H; exact H) | (simp only [hji11] at H ⊢; exact H)
        (try rw [hji11] at A4)
        (try rw [hji11] at A5)
        (try rw [hji11] at A8)
        (try rw [hji11] at A10)
        have hji11w : (IntKind.i64.wrap (t287 - 1)) = ji11 := (i64_w _).trans hji11
        by_cases c12 : 0 ≤ (ji11)
        · rw [if_pos c12] at H
          have c12b0 := eq_true c12
          have c12b1 : decide (0 ≤ (ji11)) = true := decide_eq_true c12
          clear c12
          obtain ⟨ji13, hji13⟩ : ∃ j_ : Int, (shl .u64 1 (ji11)) = j_ := ⟨_, rfl⟩
          replace H : (round_Nearest.l0 k a0 t282 0 ji13 a2_0 l2_1 a2_2 a2_3 t286 t287 t288 t289 t290 t291 t292) = some (r1, r2, r3) := by first | (rw [hji13] at H; exact H) | (simp only [hji13] at H ⊢; exact H)
          (try rw [hji13] at A4)
          (try rw [hji13] at A5)
          (try rw [hji13] at A8)
          (try rw [hji13] at A10)
          have hji13_ : (IntKind.u64.wrap (1 * 2 ^ min (ji11).toNat 64)) = ji13 := hji13
          have hji13z : (ji11) ≤ 64 → (IntKind.u64.wrap (1 * 2 ^ (ji11).toNat)) = ji13 := shl_small hji13
          have hji13u : (IntKind.u64.wrap (2 ^ min (ji11).toNat 64)) = ji13 := by have h_ := hji13_; rw [Int.one_mul] at h_; exact h_
          have hji13v : (ji11) ≤ 64 → (IntKind.u64.wrap (2 ^ (ji11).toNat)) = ji13 := fun hle_ => by have h_ := hji13z hle_; rw [Int.one_mul] at h_; exact h_
          have H' := Aside0.mk H
          clear H
          go_enter Tryd.func14, Tryd.ntmps14
          go_wp2_with (first | ((with_reducible refine gate_dst (N := 5) rfl ?_); refine box_event ?hg (N := 5) ?hd (cs := #[.bool a2_0, .slice A2_1 l2_1.length c2_1, .int .i64 a2_2, .int .i64 a2_3]) (t := 25) ?hr ?_; (case hd => rfl); (case hg => rfl); (case hr => first | (go_simp; done) | (go_simp; rfl)); intro gb281 hg w14 hbox hb; have n0_ := Aside0.mk (below_step (by repeat (first | (with_reducible first | exact HB.out | apply below_alloc | apply pw_below_drewN | apply below_drew1) | exact HB.out)) hb); have n1_ := Aside0.mk (hbox); have n2_ := Aside0.mk ((by rw [hg]; exact (below_size (by repeat (first | (with_reducible first | exact HB.out | apply below_alloc | apply pw_below_drewN | apply below_drew1) | exact HB.out))) : w.heap.size ≤ gb281)); have n3_ := Aside0.mk ((by rw [hg]; exact (below_size (by repeat (first | (with_reducible first | exact HB.out | apply below_alloc | apply pw_below_drewN | apply below_drew1) | exact HB.out))) : w.heap.size ≤ gb281)); clear HB; have HB := n0_; have BK281 := n1_; have GW281 := n2_; have GE281 := n3_; clear n0_ n1_ n2_ n3_; clear hb hbox hg) | ((with_reducible refine gate_callee (f := 22) rfl ?_); refine goesL_ (some 19) rfl rfl Tryd.func22 (by kernel_rfl) rfl #[.int .i64 a0, .bool a1] rfl (by (try simp only [List.map_toArray, List.map_cons, List.map_nil]); first | done | rfl | (simp only [List.length_drop, List.length_take]; rfl)) ?_; (with_reducible refine (value_Most.calls a0 a1 t282 t283 _ ?side1 A4.out).mono ?_); (case side1 => exact Glob.below HG.out (by repeat (first | (with_reducible first | exact HB.out | apply below_alloc | apply pw_below_drewN | apply below_drew1 | refine below_set ?_ GE281.out) | exact HB.out))); rintro e w15 ⟨rfl, hb⟩; refine ⟨_, rfl, ?_⟩; have n0_ := Aside0.mk (blk_below (g := gb281) (o := .cells #[.bool a2_0, .slice A2_1 l2_1.length c2_1, .int .i64 a2_2, .int .i64 a2_3] 25 (0, 0)) (by (with_reducible repeat (first | refine blk_drewN ?_ _ | refine blk_drew ?_ | refine blk_alloc ?_ _)); exact BK281.out) hb); have n1_ := Aside0.mk (below_step (by repeat (first | (with_reducible first | exact HB.out | apply below_alloc | apply pw_below_drewN | apply below_drew1 | refine below_set ?_ GE281.out) | exact HB.out)) hb); clear BK281; clear HB; have BK281 := n0_; have HB := n1_; clear n0_ n1_; (try clear hb); (try clear hb2); (try clear hk); (try clear hi); have hcz16_0 : w15.cell? ⟨gb281, 0, none⟩ = some (.bool a2_0) := (blk_cell BK281.out 0).trans rfl; have hcz16_1 : w15.cell? ⟨gb281, 1, none⟩ = some (.slice A2_1 l2_1.length c2_1) := (blk_cell BK281.out 1).trans rfl; have hcz16_2 : w15.cell? ⟨gb281, 2, none⟩ = some (.int .i64 a2_2) := (blk_cell BK281.out 2).trans rfl; have hcz16_3 : w15.cell? ⟨gb281, 3, none⟩ = some (.int .i64 a2_3) := (blk_cell BK281.out 3).trans rfl; have hfz16_0 := blk_frozen BK281.out 0; have hfz16_1 := blk_frozen BK281.out 1; have hfz16_2 := blk_frozen BK281.out 2; have hfz16_3 := blk_frozen BK281.out 3) | ((with_reducible refine gate_callee (f := 32) rfl ?_); refine goesL_ (some 24) rfl rfl Tryd.func32 (by kernel_rfl) rfl #[.agg #[.bool a2_0, .slice A2_1 l2_1.length c2_1, .int .i64 a2_2, .int .i64 a2_3]] rfl (by (try simp only [List.map_toArray, List.map_cons, List.map_nil]); first | done | rfl | (simp only [List.length_drop, List.length_take]; rfl)) ?_; (with_reducible refine (exact_Right.calls a2_0 _ _ l2_1 a2_2 a2_3 true _ ?side1 ?side2 A5.out).mono ?_); (case side1 => repeat (first | exact (Kd.C_below HR2_1.out HB.out) | (with_reducible refine Kd.C_alloc ?_ _) | (with_reducible refine Kd.C_drewN ?_ _) | (with_reducible refine Kd.C_drew ?_))); (case side2 => exact HC2_1.out); rintro e w17 ⟨rfl, hb⟩; refine ⟨_, rfl, ?_⟩; have n0_ := Aside0.mk (blk_below (g := gb281) (o := .cells #[.bool a2_0, .slice A2_1 l2_1.length c2_1, .int .i64 a2_2, .int .i64 a2_3] 25 (0, 0)) (by (with_reducible repeat (first | refine blk_drewN ?_ _ | refine blk_drew ?_ | refine blk_alloc ?_ _)); exact BK281.out) hb); have n1_ := Aside0.mk (below_step (by repeat (first | (with_reducible first | exact HB.out | apply below_alloc | apply pw_below_drewN | apply below_drew1 | refine below_set ?_ GE281.out) | exact HB.out)) hb); clear BK281; clear HB; have BK281 := n0_; have HB := n1_; clear n0_ n1_; (try clear hb); (try clear hb2); (try clear hk); (try clear hi); have hcz18_0 : w17.cell? ⟨gb281, 0, none⟩ = some (.bool a2_0) := (blk_cell BK281.out 0).trans rfl; have hcz18_1 : w17.cell? ⟨gb281, 1, none⟩ = some (.slice A2_1 l2_1.length c2_1) := (blk_cell BK281.out 1).trans rfl; have hcz18_2 : w17.cell? ⟨gb281, 2, none⟩ = some (.int .i64 a2_2) := (blk_cell BK281.out 2).trans rfl; have hcz18_3 : w17.cell? ⟨gb281, 3, none⟩ = some (.int .i64 a2_3) := (blk_cell BK281.out 3).trans rfl; have hfz18_0 := blk_frozen BK281.out 0; have hfz18_1 := blk_frozen BK281.out 1; have hfz18_2 := blk_frozen BK281.out 2; have hfz18_3 := blk_frozen BK281.out 3) | ((with_reducible refine gate_callee (f := 36) rfl ?_); refine goesL_ (some 34) rfl rfl Tryd.func36 (by kernel_rfl) rfl #[.int .i64 a0, .agg #[.bool a2_0, .slice A2_1 l2_1.length c2_1, .int .i64 a2_2, .int .i64 a2_3], .int .u64 t282] rfl (by (try simp only [List.map_toArray, List.map_cons, List.map_nil]); first | done | rfl | (simp only [List.length_drop, List.length_take]; rfl)) ?_; (with_reducible refine (round_within.calls k a0 a2_0 _ _ l2_1 a2_2 a2_3 t282 true _ ?side3 ?side1 ?side2 A8.out).mono ?_); (case side1 => repeat (first | exact (Kd.C_below HR2_1.out HB.out) | (with_reducible refine Kd.C_alloc ?_ _) | (with_reducible refine Kd.C_drewN ?_ _) | (with_reducible refine Kd.C_drew ?_))); (case side2 => exact HC2_1.out); (case side3 => exact Glob.below HG.out (by repeat (first | (with_reducible first | exact HB.out | apply below_alloc | apply pw_below_drewN | apply below_drew1 | refine below_set ?_ GE281.out) | exact HB.out))); rintro e w19 ⟨rfl, hb⟩; refine ⟨_, rfl, ?_⟩; have n0_ := Aside0.mk (blk_below (g := gb281) (o := .cells #[.bool a2_0, .slice A2_1 l2_1.length c2_1, .int .i64 a2_2, .int .i64 a2_3] 25 (0, 0)) (by (with_reducible repeat (first | refine blk_drewN ?_ _ | refine blk_drew ?_ | refine blk_alloc ?_ _)); exact BK281.out) hb); have n1_ := Aside0.mk (below_step (by repeat (first | (with_reducible first | exact HB.out | apply below_alloc | apply pw_below_drewN | apply below_drew1 | refine below_set ?_ GE281.out) | exact HB.out)) hb); clear BK281; clear HB; have BK281 := n0_; have HB := n1_; clear n0_ n1_; (try clear hb); (try clear hb2); (try clear hk); (try clear hi)) | ((with_reducible refine gate_callee (f := 23) rfl ?_); refine goesL_ (some 39) rfl rfl Tryd.func23 (by kernel_rfl) rfl #[.int .i64 a0] rfl (by (try simp only [List.map_toArray, List.map_cons, List.map_nil]); first | done | rfl | (simp only [List.length_drop, List.length_take]; rfl)) ?_; (with_reducible refine (forms_Of.calls a0 t286 t287 t288 t289 t290 t291 t292 t293 _ ?side1 A10.out).mono ?_); (case side1 => exact Glob.below HG.out (by repeat (first | (with_reducible first | exact HB.out | apply below_alloc | apply pw_below_drewN | apply below_drew1 | refine below_set ?_ GE281.out) | exact HB.out))); rintro e w20 ⟨rfl, hb⟩; refine ⟨_, rfl, ?_⟩; have n0_ := Aside0.mk (blk_below (g := gb281) (o := .cells #[.bool a2_0, .slice A2_1 l2_1.length c2_1, .int .i64 a2_2, .int .i64 a2_3] 25 (0, 0)) (by (with_reducible repeat (first | refine blk_drewN ?_ _ | refine blk_drew ?_ | refine blk_alloc ?_ _)); exact BK281.out) hb); have n1_ := Aside0.mk (below_step (by repeat (first | (with_reducible first | exact HB.out | apply below_alloc | apply pw_below_drewN | apply below_drew1 | refine below_set ?_ GE281.out) | exact HB.out)) hb); clear BK281; clear HB; have BK281 := n0_; have HB := n1_; clear n0_ n1_; (try clear hb); (try clear hb2); (try clear hk); (try clear hi)) | ((with_reducible refine gate_dst (N := 11) rfl ?_); refine box_event ?hg (N := 11) ?hd (cs := #[.int .i64 0, .int .i64 0, .int .i64 0, .int .i64 0, .int .u64 0, .int .u64 0, .int .u64 0]) (t := 51) ?hr ?_; (case hd => rfl); (case hg => rfl); (case hr => first | (go_simp; done) | (go_simp; rfl)); intro gb294 hg w21 hbox hb; have n0_ := Aside0.mk (blk_below (g := gb281) (o := .cells #[.bool a2_0, .slice A2_1 l2_1.length c2_1, .int .i64 a2_2, .int .i64 a2_3] 25 (0, 0)) (by (with_reducible repeat (first | refine blk_drewN ?_ _ | refine blk_drew ?_ | refine blk_alloc ?_ _)); exact BK281.out) hb); have n1_ := Aside0.mk (below_step (by repeat (first | (with_reducible first | exact HB.out | apply below_alloc | apply pw_below_drewN | apply below_drew1 | refine below_set ?_ GE281.out) | exact HB.out)) hb); have n2_ := Aside0.mk (hbox); have n3_ := Aside0.mk ((by rw [hg]; exact (below_size (by repeat (first | (with_reducible first | exact HB.out | apply below_alloc | apply pw_below_drewN | apply below_drew1 | refine below_set ?_ GE281.out) | exact HB.out))) : w.heap.size ≤ gb294)); have n4_ := Aside0.mk ((by rw [hg]; exact (below_size (by repeat (first | (with_reducible first | exact HB.out | apply below_alloc | apply pw_below_drewN | apply below_drew1 | refine below_set ?_ GE281.out) | exact HB.out))) : w.heap.size ≤ gb294)); have n5_ := Aside0.mk ((by rw [hg]; exact Nat.ne_of_lt (blk_lt (g := gb281) (o := .cells #[.bool a2_0, .slice A2_1 l2_1.length c2_1, .int .i64 a2_2, .int .i64 a2_3] 25 (0, 0)) (by (with_reducible repeat (first | refine blk_drewN ?_ _ | refine blk_drew ?_ | refine blk_alloc ?_ _)); exact BK281.out)) : gb281 ≠ gb294)); have n6_ := Aside0.mk ((by rw [hg]; exact Nat.ne_of_gt (blk_lt (g := gb281) (o := .cells #[.bool a2_0, .slice A2_1 l2_1.length c2_1, .int .i64 a2_2, .int .i64 a2_3] 25 (0, 0)) (by (with_reducible repeat (first | refine blk_drewN ?_ _ | refine blk_drew ?_ | refine blk_alloc ?_ _)); exact BK281.out)) : gb294 ≠ gb281)); clear BK281; clear HB; have BK281 := n0_; have HB := n1_; have BK294 := n2_; have GW294 := n3_; have GE294 := n4_; have NB281_294 := n5_; have NB294_281 := n6_; clear n0_ n1_ n2_ n3_ n4_ n5_ n6_; clear hb hbox hg; have hnb22 := NB294_281.out; have hnc22 := NB281_294.out; have hcz23_0 : w21.cell? ⟨gb294, 0, none⟩ = some (.int .i64 0) := (blk_cell BK294.out 0).trans rfl; have hcz23_1 : w21.cell? ⟨gb294, 1, none⟩ = some (.int .i64 0) := (blk_cell BK294.out 1).trans rfl; have hcz23_2 : w21.cell? ⟨gb294, 2, none⟩ = some (.int .i64 0) := (blk_cell BK294.out 2).trans rfl; have hcz23_3 : w21.cell? ⟨gb294, 3, none⟩ = some (.int .i64 0) := (blk_cell BK294.out 3).trans rfl; have hcz23_4 : w21.cell? ⟨gb294, 4, none⟩ = some (.int .u64 0) := (blk_cell BK294.out 4).trans rfl; have hcz23_5 : w21.cell? ⟨gb294, 5, none⟩ = some (.int .u64 0) := (blk_cell BK294.out 5).trans rfl; have hcz23_6 : w21.cell? ⟨gb294, 6, none⟩ = some (.int .u64 0) := (blk_cell BK294.out 6).trans rfl; have hfz23_0 := blk_frozen BK294.out 0; have hfz23_1 := blk_frozen BK294.out 1; have hfz23_2 := blk_frozen BK294.out 2; have hfz23_3 := blk_frozen BK294.out 3; have hfz23_4 := blk_frozen BK294.out 4; have hfz23_5 := blk_frozen BK294.out 5; have hfz23_6 := blk_frozen BK294.out 6))
          go_loopg [13, 14] k (fun kq v13 v14 w' => ∃ (x13_1 : Int) (x14_1 : Int), v13 = .int .u64 x13_1 ∧ v14 = .int .u64 x14_1 ∧ Aside0 (round_Nearest.l0 kq a0 t282 x13_1 x14_1 a2_0 l2_1 a2_2 a2_3 t286 t287 t288 t289 t290 t291 t292 = some (r1, r2, r3)) ∧ Aside0 (kq ≤ k) ∧ Aside0 (w'.heap[gb281]? = some (.cells #[.bool a2_0, (.slice A2_1 l2_1.length c2_1), .int .i64 a2_2, .int .i64 a2_3] 25 (0, 0))) ∧ Aside0 (w'.heap[gb294]? = some (.cells #[.int .i64 t286, .int .i64 t287, .int .i64 t288, .int .i64 t289, .int .u64 t290, .int .u64 t291, .int .u64 t292] 51 (0, 0))) ∧ Aside0 (Below w.heap.size w w'))
          case atStart => exact ⟨(0), (ji13), (by first | rfl | (simp; done) | (simp [*]; done)), (by first | rfl | (simp; done) | (simp only [← hji13] <;> (first | rfl | simp)) | (simp [*]; done)), H', ⟨Nat.le_refl _⟩, ⟨by (with_reducible repeat (first | refine blk_drewN ?_ _ | refine blk_drew ?_ | refine blk_alloc ?_ _)); refine blk_far ?_ NB281_294.out _; (with_reducible repeat (first | refine blk_drewN ?_ _ | refine blk_drew ?_ | refine blk_alloc ?_ _)); refine blk_far ?_ NB281_294.out _; (with_reducible repeat (first | refine blk_drewN ?_ _ | refine blk_drew ?_ | refine blk_alloc ?_ _)); refine blk_far ?_ NB281_294.out _; (with_reducible repeat (first | refine blk_drewN ?_ _ | refine blk_drew ?_ | refine blk_alloc ?_ _)); refine blk_far ?_ NB281_294.out _; (with_reducible repeat (first | refine blk_drewN ?_ _ | refine blk_drew ?_ | refine blk_alloc ?_ _)); refine blk_far ?_ NB281_294.out _; (with_reducible repeat (first | refine blk_drewN ?_ _ | refine blk_drew ?_ | refine blk_alloc ?_ _)); refine blk_far ?_ NB281_294.out _; (with_reducible repeat (first | refine blk_drewN ?_ _ | refine blk_drew ?_ | refine blk_alloc ?_ _)); refine blk_far ?_ NB281_294.out _; (with_reducible repeat (first | refine blk_drewN ?_ _ | refine blk_drew ?_ | refine blk_alloc ?_ _)); exact BK281.out⟩, ⟨by (with_reducible repeat (first | refine blk_drewN ?_ _ | refine blk_drew ?_ | refine blk_alloc ?_ _)); refine blk_put (cs := #[.int .i64 t286, .int .i64 t287, .int .i64 t288, .int .i64 t289, .int .u64 t290, .int .u64 t291, .int .u64 0]) ?_ 6 _ rfl; (with_reducible repeat (first | refine blk_drewN ?_ _ | refine blk_drew ?_ | refine blk_alloc ?_ _)); refine blk_put (cs := #[.int .i64 t286, .int .i64 t287, .int .i64 t288, .int .i64 t289, .int .u64 t290, .int .u64 0, .int .u64 0]) ?_ 5 _ rfl; (with_reducible repeat (first | refine blk_drewN ?_ _ | refine blk_drew ?_ | refine blk_alloc ?_ _)); refine blk_put (cs := #[.int .i64 t286, .int .i64 t287, .int .i64 t288, .int .i64 t289, .int .u64 0, .int .u64 0, .int .u64 0]) ?_ 4 _ rfl; (with_reducible repeat (first | refine blk_drewN ?_ _ | refine blk_drew ?_ | refine blk_alloc ?_ _)); refine blk_put (cs := #[.int .i64 t286, .int .i64 t287, .int .i64 t288, .int .i64 0, .int .u64 0, .int .u64 0, .int .u64 0]) ?_ 3 _ rfl; (with_reducible repeat (first | refine blk_drewN ?_ _ | refine blk_drew ?_ | refine blk_alloc ?_ _)); refine blk_put (cs := #[.int .i64 t286, .int .i64 t287, .int .i64 0, .int .i64 0, .int .u64 0, .int .u64 0, .int .u64 0]) ?_ 2 _ rfl; (with_reducible repeat (first | refine blk_drewN ?_ _ | refine blk_drew ?_ | refine blk_alloc ?_ _)); refine blk_put (cs := #[.int .i64 t286, .int .i64 0, .int .i64 0, .int .i64 0, .int .u64 0, .int .u64 0, .int .u64 0]) ?_ 1 _ rfl; (with_reducible repeat (first | refine blk_drewN ?_ _ | refine blk_drew ?_ | refine blk_alloc ?_ _)); refine blk_put (cs := #[.int .i64 0, .int .i64 0, .int .i64 0, .int .i64 0, .int .u64 0, .int .u64 0, .int .u64 0]) ?_ 0 _ rfl; (with_reducible repeat (first | refine blk_drewN ?_ _ | refine blk_drew ?_ | refine blk_alloc ?_ _)); exact BK294.out⟩, ⟨by repeat (first | (with_reducible first | exact HB.out | apply below_alloc | apply pw_below_drewN | apply below_drew1 | refine below_set ?_ GE281.out | refine below_set ?_ GE294.out) | exact HB.out)⟩⟩
          case round =>
            clear H'
            try clear c1
            try clear c2
            try clear p2
            try clear c3
            try clear c6
            try clear p6
            try clear c7
            try clear c7b0
            try clear c7b1
            try clear c9
            try clear c12
            try clear c12b0
            try clear c12b1
            try clear c14
            try clear c22
            try clear c23
            try clear hcz16_0
            try clear hcz16_1
            try clear hcz16_2
            try clear hcz16_3
            try clear hcz18_0
            try clear hcz18_1
            try clear hcz18_2
            try clear hcz18_3
            try clear hcz23_0
            try clear hcz23_1
            try clear hcz23_2
            try clear hcz23_3
            try clear hcz23_4
            try clear hcz23_5
            try clear hcz23_6
            try clear hfz16_0
            try clear hfz16_1
            try clear hfz16_2
            try clear hfz16_3
            try clear hfz18_0
            try clear hfz18_1
            try clear hfz18_2
            try clear hfz18_3
            try clear hfz23_0
            try clear hfz23_1
            try clear hfz23_2
            try clear hfz23_3
            try clear hfz23_4
            try clear hfz23_5
            try clear hfz23_6
            obtain ⟨x13_1, x14_1, rfl, rfl, HA, HK1, BK281, BK294, HB⟩ := hrel
            cases gk with
            | zero => exact absurd HA.out (by simp [round_Nearest.l0])
            | succ k1 =>
              have H := HA.out
              clear HA
              simp only [round_Nearest.l0] at H
              by_cases c24 : x14_1 > 0
              · rw [if_pos c24] at H
                have c24b0 : decide (0 < x14_1) = true := decide_eq_true c24
                clear c24
                by_cases c25 : (IntKind.u64.wrap (x13_1 + x14_1)) ≤ t282
                · rw [if_pos c25] at H
                  have c25b0 : decide ((IntKind.u64.wrap (x13_1 + x14_1)) ≤ t282) = true := decide_eq_true c25
                  clear c25
                  replace H := Option.bind_eq_some_iff.mp H
                  obtain ⟨t295, A260, H⟩ := H
                  replace H : (if t295 = true then (round_Nearest.l0 k1 a0 t282 x13_1 (x14_1 / 2) a2_0 l2_1 a2_2 a2_3 t286 t287 t288 t289 t290 t291 t292) else (round_Nearest.l0 k1 a0 t282 (IntKind.u64.wrap (x13_1 + x14_1)) (x14_1 / 2) a2_0 l2_1 a2_2 a2_3 t286 t287 t288 t289 t290 t291 t292)) = some (r1, r2, r3) := H
                  have A26 := Aside0.mk A260
                  clear A260
                  by_cases c27 : t295 = true
                  · subst c27
                    have H1 : (round_Nearest.l0 k1 a0 t282 x13_1 (x14_1 / 2) a2_0 l2_1 a2_2 a2_3 t286 t287 t288 t289 t290 t291 t292) = some (r1, r2, r3) := by rw [if_pos rfl] at H; exact H
                    clear H
                    have H := H1
                    clear H1
                    have H' := Aside0.mk H
                    clear H
                    have hnb28 := NB281_294.out
                    have hnc28 := NB294_281.out
                    have hcz29_0 : wr.cell? ⟨gb281, 0, none⟩ = some (.bool a2_0) := (blk_cell BK281.out 0).trans rfl
                    have hcz29_1 : wr.cell? ⟨gb281, 1, none⟩ = some (.slice A2_1 l2_1.length c2_1) := (blk_cell BK281.out 1).trans rfl
                    have hcz29_2 : wr.cell? ⟨gb281, 2, none⟩ = some (.int .i64 a2_2) := (blk_cell BK281.out 2).trans rfl
                    have hcz29_3 : wr.cell? ⟨gb281, 3, none⟩ = some (.int .i64 a2_3) := (blk_cell BK281.out 3).trans rfl
                    have hfz29_0 := blk_frozen BK281.out 0
                    have hfz29_1 := blk_frozen BK281.out 1
                    have hfz29_2 := blk_frozen BK281.out 2
                    have hfz29_3 := blk_frozen BK281.out 3
                    go_wp2_with (first | (go_at_call 36; (with_reducible refine (round_within.calls k1 a0 a2_0 _ _ l2_1 a2_2 a2_3 (IntKind.u64.wrap ((IntKind.u64.wrap (x13_1 + x14_1)) - 1)) true _ ?side3 ?side1 ?side2 A26.out).mono ?_); (case side1 => repeat (first | exact (Kd.C_below HR2_1.out HB.out) | (with_reducible refine Kd.C_alloc ?_ _) | (with_reducible refine Kd.C_drewN ?_ _) | (with_reducible refine Kd.C_drew ?_))); (case side2 => exact HC2_1.out); (case side3 => exact Glob.below HG.out (by repeat (first | (with_reducible first | exact HB.out | apply below_alloc | apply pw_below_drewN | apply below_drew1 | refine below_set ?_ GE281.out | refine below_set ?_ GE294.out) | exact HB.out))); rintro e w30 ⟨rfl, hb⟩; have n0_ := Aside0.mk (blk_below (g := gb281) (o := .cells #[.bool a2_0, .slice A2_1 l2_1.length c2_1, .int .i64 a2_2, .int .i64 a2_3] 25 (0, 0)) (by (with_reducible repeat (first | refine blk_drewN ?_ _ | refine blk_drew ?_ | refine blk_alloc ?_ _)); exact BK281.out) hb); have n1_ := Aside0.mk (blk_below (g := gb294) (o := .cells #[.int .i64 t286, .int .i64 t287, .int .i64 t288, .int .i64 t289, .int .u64 t290, .int .u64 t291, .int .u64 t292] 51 (0, 0)) (by (with_reducible repeat (first | refine blk_drewN ?_ _ | refine blk_drew ?_ | refine blk_alloc ?_ _)); exact BK294.out) hb); have n2_ := Aside0.mk (below_step (by repeat (first | (with_reducible first | exact HB.out | apply below_alloc | apply pw_below_drewN | apply below_drew1 | refine below_set ?_ GE281.out | refine below_set ?_ GE294.out) | exact HB.out)) hb); clear BK281; clear BK294; clear HB; have BK281 := n0_; have BK294 := n1_; have HB := n2_; clear n0_ n1_ n2_; (try clear hb); (try clear hb2); (try clear hk); (try clear hi)))
                    go_roundg k1
                    case measure => have := HK1.out; omega
                    case rel => exact ⟨(x13_1), (x14_1 / 2), (by first | rfl | (simp; done) | (simp [*]; done)), (by first | rfl | (simp; done) | (simp [*]; done)), H', ⟨by have := HK1.out; omega⟩, ⟨by (with_reducible repeat (first | refine blk_drewN ?_ _ | refine blk_drew ?_ | refine blk_alloc ?_ _)); exact BK281.out⟩, ⟨by (with_reducible repeat (first | refine blk_drewN ?_ _ | refine blk_drew ?_ | refine blk_alloc ?_ _)); exact BK294.out⟩, ⟨by repeat (first | (with_reducible first | exact HB.out | apply below_alloc | apply pw_below_drewN | apply below_drew1 | refine below_set ?_ GE281.out | refine below_set ?_ GE294.out) | exact HB.out)⟩⟩
                  · replace c27 := Bool.eq_false_iff.mpr c27
                    subst c27
                    have H1 : (round_Nearest.l0 k1 a0 t282 (IntKind.u64.wrap (x13_1 + x14_1)) (x14_1 / 2) a2_0 l2_1 a2_2 a2_3 t286 t287 t288 t289 t290 t291 t292) = some (r1, r2, r3) := by rw [if_neg (show ¬ (false = true) by decide)] at H; exact H
                    clear H
                    have H := H1
                    clear H1
                    have H' := Aside0.mk H
                    clear H
                    have hnb31 := NB281_294.out
                    have hnc31 := NB294_281.out
                    have hcz32_0 : wr.cell? ⟨gb281, 0, none⟩ = some (.bool a2_0) := (blk_cell BK281.out 0).trans rfl
                    have hcz32_1 : wr.cell? ⟨gb281, 1, none⟩ = some (.slice A2_1 l2_1.length c2_1) := (blk_cell BK281.out 1).trans rfl
                    have hcz32_2 : wr.cell? ⟨gb281, 2, none⟩ = some (.int .i64 a2_2) := (blk_cell BK281.out 2).trans rfl
                    have hcz32_3 : wr.cell? ⟨gb281, 3, none⟩ = some (.int .i64 a2_3) := (blk_cell BK281.out 3).trans rfl
                    have hfz32_0 := blk_frozen BK281.out 0
                    have hfz32_1 := blk_frozen BK281.out 1
                    have hfz32_2 := blk_frozen BK281.out 2
                    have hfz32_3 := blk_frozen BK281.out 3
                    go_wp2_with (first | (go_at_call 36; (with_reducible refine (round_within.calls k1 a0 a2_0 _ _ l2_1 a2_2 a2_3 (IntKind.u64.wrap ((IntKind.u64.wrap (x13_1 + x14_1)) - 1)) false _ ?side3 ?side1 ?side2 A26.out).mono ?_); (case side1 => repeat (first | exact (Kd.C_below HR2_1.out HB.out) | (with_reducible refine Kd.C_alloc ?_ _) | (with_reducible refine Kd.C_drewN ?_ _) | (with_reducible refine Kd.C_drew ?_))); (case side2 => exact HC2_1.out); (case side3 => exact Glob.below HG.out (by repeat (first | (with_reducible first | exact HB.out | apply below_alloc | apply pw_below_drewN | apply below_drew1 | refine below_set ?_ GE281.out | refine below_set ?_ GE294.out) | exact HB.out))); rintro e w33 ⟨rfl, hb⟩; have n0_ := Aside0.mk (blk_below (g := gb281) (o := .cells #[.bool a2_0, .slice A2_1 l2_1.length c2_1, .int .i64 a2_2, .int .i64 a2_3] 25 (0, 0)) (by (with_reducible repeat (first | refine blk_drewN ?_ _ | refine blk_drew ?_ | refine blk_alloc ?_ _)); exact BK281.out) hb); have n1_ := Aside0.mk (blk_below (g := gb294) (o := .cells #[.int .i64 t286, .int .i64 t287, .int .i64 t288, .int .i64 t289, .int .u64 t290, .int .u64 t291, .int .u64 t292] 51 (0, 0)) (by (with_reducible repeat (first | refine blk_drewN ?_ _ | refine blk_drew ?_ | refine blk_alloc ?_ _)); exact BK294.out) hb); have n2_ := Aside0.mk (below_step (by repeat (first | (with_reducible first | exact HB.out | apply below_alloc | apply pw_below_drewN | apply below_drew1 | refine below_set ?_ GE281.out | refine below_set ?_ GE294.out) | exact HB.out)) hb); clear BK281; clear BK294; clear HB; have BK281 := n0_; have BK294 := n1_; have HB := n2_; clear n0_ n1_ n2_; (try clear hb); (try clear hb2); (try clear hk); (try clear hi)))
                    go_roundg k1
                    case measure => have := HK1.out; omega
                    case rel => exact ⟨(IntKind.u64.wrap (x13_1 + x14_1)), (x14_1 / 2), (by first | rfl | (simp; done) | (simp [*]; done)), (by first | rfl | (simp; done) | (simp [*]; done)), H', ⟨by have := HK1.out; omega⟩, ⟨by (with_reducible repeat (first | refine blk_drewN ?_ _ | refine blk_drew ?_ | refine blk_alloc ?_ _)); exact BK281.out⟩, ⟨by (with_reducible repeat (first | refine blk_drewN ?_ _ | refine blk_drew ?_ | refine blk_alloc ?_ _)); exact BK294.out⟩, ⟨by repeat (first | (with_reducible first | exact HB.out | apply below_alloc | apply pw_below_drewN | apply below_drew1 | refine below_set ?_ GE281.out | refine below_set ?_ GE294.out) | exact HB.out)⟩⟩
                · rw [if_neg c25] at H
                  have c25b0 : decide ((IntKind.u64.wrap (x13_1 + x14_1)) ≤ t282) = false := decide_eq_false c25
                  clear c25
                  have H' := Aside0.mk H
                  clear H
                  go_wp2
                  go_roundg k1
                  case measure => have := HK1.out; omega
                  case rel => exact ⟨(x13_1), (x14_1 / 2), (by first | rfl | (simp; done) | (simp [*]; done)), (by first | rfl | (simp; done) | (simp [*]; done)), H', ⟨by have := HK1.out; omega⟩, ⟨by (with_reducible repeat (first | refine blk_drewN ?_ _ | refine blk_drew ?_ | refine blk_alloc ?_ _)); exact BK281.out⟩, ⟨by (with_reducible repeat (first | refine blk_drewN ?_ _ | refine blk_drew ?_ | refine blk_alloc ?_ _)); exact BK294.out⟩, ⟨by repeat (first | (with_reducible first | exact HB.out | apply below_alloc | apply pw_below_drewN | apply below_drew1 | refine below_set ?_ GE281.out | refine below_set ?_ GE294.out) | exact HB.out)⟩⟩
              · rw [if_neg c24] at H
                have c24b0 : decide (0 < x14_1) = false := decide_eq_false c24
                clear c24
                by_cases c34 : t286 = 1
                · rw [if_pos c34] at H
                  have c34b0 : (t286 == 1) = true := beq_iff_eq.mpr c34
                  have c34b1 : (t286 != 1) = false := bne_eq_false_iff_eq.mpr c34
                  clear c34
                  by_cases c35 : x13_1 = 0
                  · rw [if_pos c35] at H
                    have c35b0 : (x13_1 == 0) = true := beq_iff_eq.mpr c35
                    have c35b1 : (x13_1 != 0) = false := bne_eq_false_iff_eq.mpr c35
                    clear c35
                    replace H := Option.bind_eq_some_iff.mp H
                    obtain ⟨t296, A360, H⟩ := H
                    replace H : (if t296 = true then (some (x13_1, false, 0)) else (some (1, false, 0))) = some (r1, r2, r3) := H
                    have A36 := Aside0.mk A360
                    clear A360
                    by_cases c37 : t296 = true
                    · subst c37
                      have H1 : (some (x13_1, false, 0)) = some (r1, r2, r3) := by rw [if_pos rfl] at H; exact H
                      clear H
                      have H := H1
                      clear H1
                      simp only [Option.some.injEq, Prod.mk.injEq] at H
                      obtain ⟨rfl, rfl, rfl⟩ := H
                      have hnb38 := NB294_281.out
                      have hnc38 := NB281_294.out
                      have hcz39_0 : wr.cell? ⟨gb294, 0, none⟩ = some (.int .i64 t286) := (blk_cell BK294.out 0).trans rfl
                      have hcz39_1 : wr.cell? ⟨gb294, 1, none⟩ = some (.int .i64 t287) := (blk_cell BK294.out 1).trans rfl
                      have hcz39_2 : wr.cell? ⟨gb294, 2, none⟩ = some (.int .i64 t288) := (blk_cell BK294.out 2).trans rfl
                      have hcz39_3 : wr.cell? ⟨gb294, 3, none⟩ = some (.int .i64 t289) := (blk_cell BK294.out 3).trans rfl
                      have hcz39_4 : wr.cell? ⟨gb294, 4, none⟩ = some (.int .u64 t290) := (blk_cell BK294.out 4).trans rfl
                      have hcz39_5 : wr.cell? ⟨gb294, 5, none⟩ = some (.int .u64 t291) := (blk_cell BK294.out 5).trans rfl
                      have hcz39_6 : wr.cell? ⟨gb294, 6, none⟩ = some (.int .u64 t292) := (blk_cell BK294.out 6).trans rfl
                      have hfz39_0 := blk_frozen BK294.out 0
                      have hfz39_1 := blk_frozen BK294.out 1
                      have hfz39_2 := blk_frozen BK294.out 2
                      have hfz39_3 := blk_frozen BK294.out 3
                      have hfz39_4 := blk_frozen BK294.out 4
                      have hfz39_5 := blk_frozen BK294.out 5
                      have hfz39_6 := blk_frozen BK294.out 6
                      have hcz40_0 : wr.cell? ⟨gb281, 0, none⟩ = some (.bool a2_0) := (blk_cell BK281.out 0).trans rfl
                      have hcz40_1 : wr.cell? ⟨gb281, 1, none⟩ = some (.slice A2_1 l2_1.length c2_1) := (blk_cell BK281.out 1).trans rfl
                      have hcz40_2 : wr.cell? ⟨gb281, 2, none⟩ = some (.int .i64 a2_2) := (blk_cell BK281.out 2).trans rfl
                      have hcz40_3 : wr.cell? ⟨gb281, 3, none⟩ = some (.int .i64 a2_3) := (blk_cell BK281.out 3).trans rfl
                      have hfz40_0 := blk_frozen BK281.out 0
                      have hfz40_1 := blk_frozen BK281.out 1
                      have hfz40_2 := blk_frozen BK281.out 2
                      have hfz40_3 := blk_frozen BK281.out 3
                      go_wp2_with (first | (go_at_call 33; (with_reducible refine (round_zero.calls a2_0 _ _ l2_1 a2_2 a2_3 true _ ?side1 ?side2 A36.out).mono ?_); (case side1 => repeat (first | exact (Kd.C_below HR2_1.out HB.out) | (with_reducible refine Kd.C_alloc ?_ _) | (with_reducible refine Kd.C_drewN ?_ _) | (with_reducible refine Kd.C_drew ?_))); (case side2 => exact HC2_1.out); rintro e w41 ⟨rfl, hb⟩; have n0_ := Aside0.mk (blk_below (g := gb281) (o := .cells #[.bool a2_0, .slice A2_1 l2_1.length c2_1, .int .i64 a2_2, .int .i64 a2_3] 25 (0, 0)) (by (with_reducible repeat (first | refine blk_drewN ?_ _ | refine blk_drew ?_ | refine blk_alloc ?_ _)); exact BK281.out) hb); have n1_ := Aside0.mk (blk_below (g := gb294) (o := .cells #[.int .i64 t286, .int .i64 t287, .int .i64 t288, .int .i64 t289, .int .u64 t290, .int .u64 t291, .int .u64 t292] 51 (0, 0)) (by (with_reducible repeat (first | refine blk_drewN ?_ _ | refine blk_drew ?_ | refine blk_alloc ?_ _)); exact BK294.out) hb); have n2_ := Aside0.mk (below_step (by repeat (first | (with_reducible first | exact HB.out | apply below_alloc | apply pw_below_drewN | apply below_drew1 | refine below_set ?_ GE281.out | refine below_set ?_ GE294.out) | exact HB.out)) hb); clear BK281; clear BK294; clear HB; have BK281 := n0_; have BK294 := n1_; have HB := n2_; clear n0_ n1_ n2_; (try clear hb); (try clear hb2); (try clear hk); (try clear hi)))
                      go_ret3
                      exact ⟨by first | rfl | (simp [errW_none, errW_some] <;> rfl) | (simp only [← hji11, ← hji13]; first | rfl | (simp [errW_none, errW_some] <;> rfl)) | (simp [*, errW_none, errW_some] <;> rfl), by repeat (first | (with_reducible first | exact HB.out | apply below_alloc | apply pw_below_drewN | apply below_drew1 | refine below_set ?_ GE281.out | refine below_set ?_ GE294.out) | exact HB.out)⟩
                    · replace c37 := Bool.eq_false_iff.mpr c37
                      subst c37
                      have H1 : (some (1, false, 0)) = some (r1, r2, r3) := by rw [if_neg (show ¬ (false = true) by decide)] at H; exact H
                      clear H
                      have H := H1
                      clear H1
                      simp only [Option.some.injEq, Prod.mk.injEq] at H
                      obtain ⟨rfl, rfl, rfl⟩ := H
                      have hnb42 := NB294_281.out
                      have hnc42 := NB281_294.out
                      have hcz43_0 : wr.cell? ⟨gb294, 0, none⟩ = some (.int .i64 t286) := (blk_cell BK294.out 0).trans rfl
                      have hcz43_1 : wr.cell? ⟨gb294, 1, none⟩ = some (.int .i64 t287) := (blk_cell BK294.out 1).trans rfl
                      have hcz43_2 : wr.cell? ⟨gb294, 2, none⟩ = some (.int .i64 t288) := (blk_cell BK294.out 2).trans rfl
                      have hcz43_3 : wr.cell? ⟨gb294, 3, none⟩ = some (.int .i64 t289) := (blk_cell BK294.out 3).trans rfl
                      have hcz43_4 : wr.cell? ⟨gb294, 4, none⟩ = some (.int .u64 t290) := (blk_cell BK294.out 4).trans rfl
                      have hcz43_5 : wr.cell? ⟨gb294, 5, none⟩ = some (.int .u64 t291) := (blk_cell BK294.out 5).trans rfl
                      have hcz43_6 : wr.cell? ⟨gb294, 6, none⟩ = some (.int .u64 t292) := (blk_cell BK294.out 6).trans rfl
                      have hfz43_0 := blk_frozen BK294.out 0
                      have hfz43_1 := blk_frozen BK294.out 1
                      have hfz43_2 := blk_frozen BK294.out 2
                      have hfz43_3 := blk_frozen BK294.out 3
                      have hfz43_4 := blk_frozen BK294.out 4
                      have hfz43_5 := blk_frozen BK294.out 5
                      have hfz43_6 := blk_frozen BK294.out 6
                      have hcz44_0 : wr.cell? ⟨gb281, 0, none⟩ = some (.bool a2_0) := (blk_cell BK281.out 0).trans rfl
                      have hcz44_1 : wr.cell? ⟨gb281, 1, none⟩ = some (.slice A2_1 l2_1.length c2_1) := (blk_cell BK281.out 1).trans rfl
                      have hcz44_2 : wr.cell? ⟨gb281, 2, none⟩ = some (.int .i64 a2_2) := (blk_cell BK281.out 2).trans rfl
                      have hcz44_3 : wr.cell? ⟨gb281, 3, none⟩ = some (.int .i64 a2_3) := (blk_cell BK281.out 3).trans rfl
                      have hfz44_0 := blk_frozen BK281.out 0
                      have hfz44_1 := blk_frozen BK281.out 1
                      have hfz44_2 := blk_frozen BK281.out 2
                      have hfz44_3 := blk_frozen BK281.out 3
                      go_wp2_with (first | (go_at_call 33; (with_reducible refine (round_zero.calls a2_0 _ _ l2_1 a2_2 a2_3 false _ ?side1 ?side2 A36.out).mono ?_); (case side1 => repeat (first | exact (Kd.C_below HR2_1.out HB.out) | (with_reducible refine Kd.C_alloc ?_ _) | (with_reducible refine Kd.C_drewN ?_ _) | (with_reducible refine Kd.C_drew ?_))); (case side2 => exact HC2_1.out); rintro e w45 ⟨rfl, hb⟩; have n0_ := Aside0.mk (blk_below (g := gb281) (o := .cells #[.bool a2_0, .slice A2_1 l2_1.length c2_1, .int .i64 a2_2, .int .i64 a2_3] 25 (0, 0)) (by (with_reducible repeat (first | refine blk_drewN ?_ _ | refine blk_drew ?_ | refine blk_alloc ?_ _)); exact BK281.out) hb); have n1_ := Aside0.mk (blk_below (g := gb294) (o := .cells #[.int .i64 t286, .int .i64 t287, .int .i64 t288, .int .i64 t289, .int .u64 t290, .int .u64 t291, .int .u64 t292] 51 (0, 0)) (by (with_reducible repeat (first | refine blk_drewN ?_ _ | refine blk_drew ?_ | refine blk_alloc ?_ _)); exact BK294.out) hb); have n2_ := Aside0.mk (below_step (by repeat (first | (with_reducible first | exact HB.out | apply below_alloc | apply pw_below_drewN | apply below_drew1 | refine below_set ?_ GE281.out | refine below_set ?_ GE294.out) | exact HB.out)) hb); clear BK281; clear BK294; clear HB; have BK281 := n0_; have BK294 := n1_; have HB := n2_; clear n0_ n1_ n2_; (try clear hb); (try clear hb2); (try clear hk); (try clear hi)))
                      go_ret3
                      exact ⟨by first | rfl | (simp [errW_none, errW_some] <;> rfl) | (simp only [← hji11, ← hji13]; first | rfl | (simp [errW_none, errW_some] <;> rfl)) | (simp [*, errW_none, errW_some] <;> rfl), by repeat (first | (with_reducible first | exact HB.out | apply below_alloc | apply pw_below_drewN | apply below_drew1 | refine below_set ?_ GE281.out | refine below_set ?_ GE294.out) | exact HB.out)⟩
                  · rw [if_neg c35] at H
                    have c35b0 : (x13_1 == 0) = false := beq_eq_false_iff_ne.mpr c35
                    have c35b1 : (x13_1 != 0) = true := bne_iff_ne.mpr c35
                    simp only [Option.some.injEq, Prod.mk.injEq] at H
                    obtain ⟨rfl, rfl, rfl⟩ := H
                    have hnb46 := NB294_281.out
                    have hnc46 := NB281_294.out
                    have hcz47_0 : wr.cell? ⟨gb294, 0, none⟩ = some (.int .i64 t286) := (blk_cell BK294.out 0).trans rfl
                    have hcz47_1 : wr.cell? ⟨gb294, 1, none⟩ = some (.int .i64 t287) := (blk_cell BK294.out 1).trans rfl
                    have hcz47_2 : wr.cell? ⟨gb294, 2, none⟩ = some (.int .i64 t288) := (blk_cell BK294.out 2).trans rfl
                    have hcz47_3 : wr.cell? ⟨gb294, 3, none⟩ = some (.int .i64 t289) := (blk_cell BK294.out 3).trans rfl
                    have hcz47_4 : wr.cell? ⟨gb294, 4, none⟩ = some (.int .u64 t290) := (blk_cell BK294.out 4).trans rfl
                    have hcz47_5 : wr.cell? ⟨gb294, 5, none⟩ = some (.int .u64 t291) := (blk_cell BK294.out 5).trans rfl
                    have hcz47_6 : wr.cell? ⟨gb294, 6, none⟩ = some (.int .u64 t292) := (blk_cell BK294.out 6).trans rfl
                    have hfz47_0 := blk_frozen BK294.out 0
                    have hfz47_1 := blk_frozen BK294.out 1
                    have hfz47_2 := blk_frozen BK294.out 2
                    have hfz47_3 := blk_frozen BK294.out 3
                    have hfz47_4 := blk_frozen BK294.out 4
                    have hfz47_5 := blk_frozen BK294.out 5
                    have hfz47_6 := blk_frozen BK294.out 6
                    go_wp2
                    go_ret3
                    exact ⟨by first | rfl | (simp [errW_none, errW_some] <;> rfl) | (simp only [← hji11, ← hji13]; first | rfl | (simp [errW_none, errW_some] <;> rfl)) | (simp [*, errW_none, errW_some] <;> rfl), by repeat (first | (with_reducible first | exact HB.out | apply below_alloc | apply pw_below_drewN | apply below_drew1 | refine below_set ?_ GE281.out | refine below_set ?_ GE294.out) | exact HB.out)⟩
                · rw [if_neg c34] at H
                  have c34b0 : (t286 == 1) = false := beq_eq_false_iff_ne.mpr c34
                  have c34b1 : (t286 != 1) = true := bne_iff_ne.mpr c34
                  simp only [Option.some.injEq, Prod.mk.injEq] at H
                  obtain ⟨rfl, rfl, rfl⟩ := H
                  have hnb48 := NB294_281.out
                  have hnc48 := NB281_294.out
                  have hcz49_0 : wr.cell? ⟨gb294, 0, none⟩ = some (.int .i64 t286) := (blk_cell BK294.out 0).trans rfl
                  have hcz49_1 : wr.cell? ⟨gb294, 1, none⟩ = some (.int .i64 t287) := (blk_cell BK294.out 1).trans rfl
                  have hcz49_2 : wr.cell? ⟨gb294, 2, none⟩ = some (.int .i64 t288) := (blk_cell BK294.out 2).trans rfl
                  have hcz49_3 : wr.cell? ⟨gb294, 3, none⟩ = some (.int .i64 t289) := (blk_cell BK294.out 3).trans rfl
                  have hcz49_4 : wr.cell? ⟨gb294, 4, none⟩ = some (.int .u64 t290) := (blk_cell BK294.out 4).trans rfl
                  have hcz49_5 : wr.cell? ⟨gb294, 5, none⟩ = some (.int .u64 t291) := (blk_cell BK294.out 5).trans rfl
                  have hcz49_6 : wr.cell? ⟨gb294, 6, none⟩ = some (.int .u64 t292) := (blk_cell BK294.out 6).trans rfl
                  have hfz49_0 := blk_frozen BK294.out 0
                  have hfz49_1 := blk_frozen BK294.out 1
                  have hfz49_2 := blk_frozen BK294.out 2
                  have hfz49_3 := blk_frozen BK294.out 3
                  have hfz49_4 := blk_frozen BK294.out 4
                  have hfz49_5 := blk_frozen BK294.out 5
                  have hfz49_6 := blk_frozen BK294.out 6
                  go_wp2
                  go_ret3
                  exact ⟨by first | rfl | (simp [errW_none, errW_some] <;> rfl) | (simp only [← hji11, ← hji13]; first | rfl | (simp [errW_none, errW_some] <;> rfl)) | (simp [*, errW_none, errW_some] <;> rfl), by repeat (first | (with_reducible first | exact HB.out | apply below_alloc | apply pw_below_drewN | apply below_drew1 | refine below_set ?_ GE281.out | refine below_set ?_ GE294.out) | exact HB.out)⟩
        · rw [if_neg c12] at H
          exact absurd H (by simp)
      · replace c9 := Bool.eq_false_iff.mpr c9
        subst c9
        have H1 : (some (t282, true, 0)) = some (r1, r2, r3) := by rw [if_neg (show ¬ (false = true) by decide)] at H; exact H
        clear H
        have H := H1
        clear H1
        simp only [Option.some.injEq, Prod.mk.injEq] at H
        obtain ⟨rfl, rfl, rfl⟩ := H
        go_enter Tryd.func14, Tryd.ntmps14
        go_wp2_with (first | ((with_reducible refine gate_dst (N := 5) rfl ?_); refine box_event ?hg (N := 5) ?hd (cs := #[.bool a2_0, .slice A2_1 l2_1.length c2_1, .int .i64 a2_2, .int .i64 a2_3]) (t := 25) ?hr ?_; (case hd => rfl); (case hg => rfl); (case hr => first | (go_simp; done) | (go_simp; rfl)); intro gb281 hg w50 hbox hb; have n0_ := Aside0.mk (below_step (by repeat (first | (with_reducible first | exact HB.out | apply below_alloc | apply pw_below_drewN | apply below_drew1) | exact HB.out)) hb); have n1_ := Aside0.mk (hbox); have n2_ := Aside0.mk ((by rw [hg]; exact (below_size (by repeat (first | (with_reducible first | exact HB.out | apply below_alloc | apply pw_below_drewN | apply below_drew1) | exact HB.out))) : w.heap.size ≤ gb281)); have n3_ := Aside0.mk ((by rw [hg]; exact (below_size (by repeat (first | (with_reducible first | exact HB.out | apply below_alloc | apply pw_below_drewN | apply below_drew1) | exact HB.out))) : w.heap.size ≤ gb281)); clear HB; have HB := n0_; have BK281 := n1_; have GW281 := n2_; have GE281 := n3_; clear n0_ n1_ n2_ n3_; clear hb hbox hg) | ((with_reducible refine gate_callee (f := 22) rfl ?_); refine goesL_ (some 19) rfl rfl Tryd.func22 (by kernel_rfl) rfl #[.int .i64 a0, .bool a1] rfl (by (try simp only [List.map_toArray, List.map_cons, List.map_nil]); first | done | rfl | (simp only [List.length_drop, List.length_take]; rfl)) ?_; (with_reducible refine (value_Most.calls a0 a1 t282 t283 _ ?side1 A4.out).mono ?_); (case side1 => exact Glob.below HG.out (by repeat (first | (with_reducible first | exact HB.out | apply below_alloc | apply pw_below_drewN | apply below_drew1 | refine below_set ?_ GE281.out) | exact HB.out))); rintro e w51 ⟨rfl, hb⟩; refine ⟨_, rfl, ?_⟩; have n0_ := Aside0.mk (blk_below (g := gb281) (o := .cells #[.bool a2_0, .slice A2_1 l2_1.length c2_1, .int .i64 a2_2, .int .i64 a2_3] 25 (0, 0)) (by (with_reducible repeat (first | refine blk_drewN ?_ _ | refine blk_drew ?_ | refine blk_alloc ?_ _)); exact BK281.out) hb); have n1_ := Aside0.mk (below_step (by repeat (first | (with_reducible first | exact HB.out | apply below_alloc | apply pw_below_drewN | apply below_drew1 | refine below_set ?_ GE281.out) | exact HB.out)) hb); clear BK281; clear HB; have BK281 := n0_; have HB := n1_; clear n0_ n1_; (try clear hb); (try clear hb2); (try clear hk); (try clear hi); have hcz52_0 : w51.cell? ⟨gb281, 0, none⟩ = some (.bool a2_0) := (blk_cell BK281.out 0).trans rfl; have hcz52_1 : w51.cell? ⟨gb281, 1, none⟩ = some (.slice A2_1 l2_1.length c2_1) := (blk_cell BK281.out 1).trans rfl; have hcz52_2 : w51.cell? ⟨gb281, 2, none⟩ = some (.int .i64 a2_2) := (blk_cell BK281.out 2).trans rfl; have hcz52_3 : w51.cell? ⟨gb281, 3, none⟩ = some (.int .i64 a2_3) := (blk_cell BK281.out 3).trans rfl; have hfz52_0 := blk_frozen BK281.out 0; have hfz52_1 := blk_frozen BK281.out 1; have hfz52_2 := blk_frozen BK281.out 2; have hfz52_3 := blk_frozen BK281.out 3) | ((with_reducible refine gate_callee (f := 32) rfl ?_); refine goesL_ (some 24) rfl rfl Tryd.func32 (by kernel_rfl) rfl #[.agg #[.bool a2_0, .slice A2_1 l2_1.length c2_1, .int .i64 a2_2, .int .i64 a2_3]] rfl (by (try simp only [List.map_toArray, List.map_cons, List.map_nil]); first | done | rfl | (simp only [List.length_drop, List.length_take]; rfl)) ?_; (with_reducible refine (exact_Right.calls a2_0 _ _ l2_1 a2_2 a2_3 true _ ?side1 ?side2 A5.out).mono ?_); (case side1 => repeat (first | exact (Kd.C_below HR2_1.out HB.out) | (with_reducible refine Kd.C_alloc ?_ _) | (with_reducible refine Kd.C_drewN ?_ _) | (with_reducible refine Kd.C_drew ?_))); (case side2 => exact HC2_1.out); rintro e w53 ⟨rfl, hb⟩; refine ⟨_, rfl, ?_⟩; have n0_ := Aside0.mk (blk_below (g := gb281) (o := .cells #[.bool a2_0, .slice A2_1 l2_1.length c2_1, .int .i64 a2_2, .int .i64 a2_3] 25 (0, 0)) (by (with_reducible repeat (first | refine blk_drewN ?_ _ | refine blk_drew ?_ | refine blk_alloc ?_ _)); exact BK281.out) hb); have n1_ := Aside0.mk (below_step (by repeat (first | (with_reducible first | exact HB.out | apply below_alloc | apply pw_below_drewN | apply below_drew1 | refine below_set ?_ GE281.out) | exact HB.out)) hb); clear BK281; clear HB; have BK281 := n0_; have HB := n1_; clear n0_ n1_; (try clear hb); (try clear hb2); (try clear hk); (try clear hi); have hcz54_0 : w53.cell? ⟨gb281, 0, none⟩ = some (.bool a2_0) := (blk_cell BK281.out 0).trans rfl; have hcz54_1 : w53.cell? ⟨gb281, 1, none⟩ = some (.slice A2_1 l2_1.length c2_1) := (blk_cell BK281.out 1).trans rfl; have hcz54_2 : w53.cell? ⟨gb281, 2, none⟩ = some (.int .i64 a2_2) := (blk_cell BK281.out 2).trans rfl; have hcz54_3 : w53.cell? ⟨gb281, 3, none⟩ = some (.int .i64 a2_3) := (blk_cell BK281.out 3).trans rfl; have hfz54_0 := blk_frozen BK281.out 0; have hfz54_1 := blk_frozen BK281.out 1; have hfz54_2 := blk_frozen BK281.out 2; have hfz54_3 := blk_frozen BK281.out 3) | ((with_reducible refine gate_callee (f := 36) rfl ?_); refine goesL_ (some 34) rfl rfl Tryd.func36 (by kernel_rfl) rfl #[.int .i64 a0, .agg #[.bool a2_0, .slice A2_1 l2_1.length c2_1, .int .i64 a2_2, .int .i64 a2_3], .int .u64 t282] rfl (by (try simp only [List.map_toArray, List.map_cons, List.map_nil]); first | done | rfl | (simp only [List.length_drop, List.length_take]; rfl)) ?_; (with_reducible refine (round_within.calls k a0 a2_0 _ _ l2_1 a2_2 a2_3 t282 false _ ?side3 ?side1 ?side2 A8.out).mono ?_); (case side1 => repeat (first | exact (Kd.C_below HR2_1.out HB.out) | (with_reducible refine Kd.C_alloc ?_ _) | (with_reducible refine Kd.C_drewN ?_ _) | (with_reducible refine Kd.C_drew ?_))); (case side2 => exact HC2_1.out); (case side3 => exact Glob.below HG.out (by repeat (first | (with_reducible first | exact HB.out | apply below_alloc | apply pw_below_drewN | apply below_drew1 | refine below_set ?_ GE281.out) | exact HB.out))); rintro e w55 ⟨rfl, hb⟩; refine ⟨_, rfl, ?_⟩; have n0_ := Aside0.mk (blk_below (g := gb281) (o := .cells #[.bool a2_0, .slice A2_1 l2_1.length c2_1, .int .i64 a2_2, .int .i64 a2_3] 25 (0, 0)) (by (with_reducible repeat (first | refine blk_drewN ?_ _ | refine blk_drew ?_ | refine blk_alloc ?_ _)); exact BK281.out) hb); have n1_ := Aside0.mk (below_step (by repeat (first | (with_reducible first | exact HB.out | apply below_alloc | apply pw_below_drewN | apply below_drew1 | refine below_set ?_ GE281.out) | exact HB.out)) hb); clear BK281; clear HB; have BK281 := n0_; have HB := n1_; clear n0_ n1_; (try clear hb); (try clear hb2); (try clear hk); (try clear hi)))
        go_ret3
        exact ⟨by first | rfl | (simp [errW_none, errW_some] <;> rfl) | (simp [*, errW_none, errW_some] <;> rfl), by repeat (first | (with_reducible first | exact HB.out | apply below_alloc | apply pw_below_drewN | apply below_drew1 | refine below_set ?_ GE281.out) | exact HB.out)⟩
    · rw [if_neg c7] at H
      have c7b0 : (t283 == 0) = false := beq_eq_false_iff_ne.mpr c7
      have c7b1 : (t283 != 0) = true := bne_iff_ne.mpr c7
      simp only [Option.some.injEq, Prod.mk.injEq] at H
      obtain ⟨rfl, rfl, rfl⟩ := H
      go_enter Tryd.func14, Tryd.ntmps14
      go_wp2_with (first | ((with_reducible refine gate_dst (N := 5) rfl ?_); refine box_event ?hg (N := 5) ?hd (cs := #[.bool a2_0, .slice A2_1 l2_1.length c2_1, .int .i64 a2_2, .int .i64 a2_3]) (t := 25) ?hr ?_; (case hd => rfl); (case hg => rfl); (case hr => first | (go_simp; done) | (go_simp; rfl)); intro gb281 hg w56 hbox hb; have n0_ := Aside0.mk (below_step (by repeat (first | (with_reducible first | exact HB.out | apply below_alloc | apply pw_below_drewN | apply below_drew1) | exact HB.out)) hb); have n1_ := Aside0.mk (hbox); have n2_ := Aside0.mk ((by rw [hg]; exact (below_size (by repeat (first | (with_reducible first | exact HB.out | apply below_alloc | apply pw_below_drewN | apply below_drew1) | exact HB.out))) : w.heap.size ≤ gb281)); have n3_ := Aside0.mk ((by rw [hg]; exact (below_size (by repeat (first | (with_reducible first | exact HB.out | apply below_alloc | apply pw_below_drewN | apply below_drew1) | exact HB.out))) : w.heap.size ≤ gb281)); clear HB; have HB := n0_; have BK281 := n1_; have GW281 := n2_; have GE281 := n3_; clear n0_ n1_ n2_ n3_; clear hb hbox hg) | ((with_reducible refine gate_callee (f := 22) rfl ?_); refine goesL_ (some 19) rfl rfl Tryd.func22 (by kernel_rfl) rfl #[.int .i64 a0, .bool a1] rfl (by (try simp only [List.map_toArray, List.map_cons, List.map_nil]); first | done | rfl | (simp only [List.length_drop, List.length_take]; rfl)) ?_; (with_reducible refine (value_Most.calls a0 a1 t282 t283 _ ?side1 A4.out).mono ?_); (case side1 => exact Glob.below HG.out (by repeat (first | (with_reducible first | exact HB.out | apply below_alloc | apply pw_below_drewN | apply below_drew1 | refine below_set ?_ GE281.out) | exact HB.out))); rintro e w57 ⟨rfl, hb⟩; refine ⟨_, rfl, ?_⟩; have n0_ := Aside0.mk (blk_below (g := gb281) (o := .cells #[.bool a2_0, .slice A2_1 l2_1.length c2_1, .int .i64 a2_2, .int .i64 a2_3] 25 (0, 0)) (by (with_reducible repeat (first | refine blk_drewN ?_ _ | refine blk_drew ?_ | refine blk_alloc ?_ _)); exact BK281.out) hb); have n1_ := Aside0.mk (below_step (by repeat (first | (with_reducible first | exact HB.out | apply below_alloc | apply pw_below_drewN | apply below_drew1 | refine below_set ?_ GE281.out) | exact HB.out)) hb); clear BK281; clear HB; have BK281 := n0_; have HB := n1_; clear n0_ n1_; (try clear hb); (try clear hb2); (try clear hk); (try clear hi); have hcz58_0 : w57.cell? ⟨gb281, 0, none⟩ = some (.bool a2_0) := (blk_cell BK281.out 0).trans rfl; have hcz58_1 : w57.cell? ⟨gb281, 1, none⟩ = some (.slice A2_1 l2_1.length c2_1) := (blk_cell BK281.out 1).trans rfl; have hcz58_2 : w57.cell? ⟨gb281, 2, none⟩ = some (.int .i64 a2_2) := (blk_cell BK281.out 2).trans rfl; have hcz58_3 : w57.cell? ⟨gb281, 3, none⟩ = some (.int .i64 a2_3) := (blk_cell BK281.out 3).trans rfl; have hfz58_0 := blk_frozen BK281.out 0; have hfz58_1 := blk_frozen BK281.out 1; have hfz58_2 := blk_frozen BK281.out 2; have hfz58_3 := blk_frozen BK281.out 3) | ((with_reducible refine gate_callee (f := 32) rfl ?_); refine goesL_ (some 24) rfl rfl Tryd.func32 (by kernel_rfl) rfl #[.agg #[.bool a2_0, .slice A2_1 l2_1.length c2_1, .int .i64 a2_2, .int .i64 a2_3]] rfl (by (try simp only [List.map_toArray, List.map_cons, List.map_nil]); first | done | rfl | (simp only [List.length_drop, List.length_take]; rfl)) ?_; (with_reducible refine (exact_Right.calls a2_0 _ _ l2_1 a2_2 a2_3 true _ ?side1 ?side2 A5.out).mono ?_); (case side1 => repeat (first | exact (Kd.C_below HR2_1.out HB.out) | (with_reducible refine Kd.C_alloc ?_ _) | (with_reducible refine Kd.C_drewN ?_ _) | (with_reducible refine Kd.C_drew ?_))); (case side2 => exact HC2_1.out); rintro e w59 ⟨rfl, hb⟩; refine ⟨_, rfl, ?_⟩; have n0_ := Aside0.mk (blk_below (g := gb281) (o := .cells #[.bool a2_0, .slice A2_1 l2_1.length c2_1, .int .i64 a2_2, .int .i64 a2_3] 25 (0, 0)) (by (with_reducible repeat (first | refine blk_drewN ?_ _ | refine blk_drew ?_ | refine blk_alloc ?_ _)); exact BK281.out) hb); have n1_ := Aside0.mk (below_step (by repeat (first | (with_reducible first | exact HB.out | apply below_alloc | apply pw_below_drewN | apply below_drew1 | refine below_set ?_ GE281.out) | exact HB.out)) hb); clear BK281; clear HB; have BK281 := n0_; have HB := n1_; clear n0_ n1_; (try clear hb); (try clear hb2); (try clear hk); (try clear hi)))
      go_ret3
      exact ⟨by first | rfl | (simp [errW_none, errW_some] <;> rfl) | (simp [*, errW_none, errW_some] <;> rfl), by repeat (first | (with_reducible first | exact HB.out | apply below_alloc | apply pw_below_drewN | apply below_drew1 | refine below_set ?_ GE281.out) | exact HB.out)⟩
  · replace c6 := Bool.eq_false_iff.mpr c6
    subst c6
    have H1 : (some (0, false, 1)) = some (r1, r2, r3) := by rw [if_neg (show ¬ (false = true) by decide)] at H; exact H
    clear H
    have H := H1
    clear H1
    simp only [Option.some.injEq, Prod.mk.injEq] at H
    obtain ⟨rfl, rfl, rfl⟩ := H
    go_enter Tryd.func14, Tryd.ntmps14
    go_wp2_with (first | ((with_reducible refine gate_dst (N := 5) rfl ?_); refine box_event ?hg (N := 5) ?hd (cs := #[.bool a2_0, .slice A2_1 l2_1.length c2_1, .int .i64 a2_2, .int .i64 a2_3]) (t := 25) ?hr ?_; (case hd => rfl); (case hg => rfl); (case hr => first | (go_simp; done) | (go_simp; rfl)); intro gb281 hg w60 hbox hb; have n0_ := Aside0.mk (below_step (by repeat (first | (with_reducible first | exact HB.out | apply below_alloc | apply pw_below_drewN | apply below_drew1) | exact HB.out)) hb); have n1_ := Aside0.mk (hbox); have n2_ := Aside0.mk ((by rw [hg]; exact (below_size (by repeat (first | (with_reducible first | exact HB.out | apply below_alloc | apply pw_below_drewN | apply below_drew1) | exact HB.out))) : w.heap.size ≤ gb281)); have n3_ := Aside0.mk ((by rw [hg]; exact (below_size (by repeat (first | (with_reducible first | exact HB.out | apply below_alloc | apply pw_below_drewN | apply below_drew1) | exact HB.out))) : w.heap.size ≤ gb281)); clear HB; have HB := n0_; have BK281 := n1_; have GW281 := n2_; have GE281 := n3_; clear n0_ n1_ n2_ n3_; clear hb hbox hg) | ((with_reducible refine gate_callee (f := 22) rfl ?_); refine goesL_ (some 19) rfl rfl Tryd.func22 (by kernel_rfl) rfl #[.int .i64 a0, .bool a1] rfl (by (try simp only [List.map_toArray, List.map_cons, List.map_nil]); first | done | rfl | (simp only [List.length_drop, List.length_take]; rfl)) ?_; (with_reducible refine (value_Most.calls a0 a1 t282 t283 _ ?side1 A4.out).mono ?_); (case side1 => exact Glob.below HG.out (by repeat (first | (with_reducible first | exact HB.out | apply below_alloc | apply pw_below_drewN | apply below_drew1 | refine below_set ?_ GE281.out) | exact HB.out))); rintro e w61 ⟨rfl, hb⟩; refine ⟨_, rfl, ?_⟩; have n0_ := Aside0.mk (blk_below (g := gb281) (o := .cells #[.bool a2_0, .slice A2_1 l2_1.length c2_1, .int .i64 a2_2, .int .i64 a2_3] 25 (0, 0)) (by (with_reducible repeat (first | refine blk_drewN ?_ _ | refine blk_drew ?_ | refine blk_alloc ?_ _)); exact BK281.out) hb); have n1_ := Aside0.mk (below_step (by repeat (first | (with_reducible first | exact HB.out | apply below_alloc | apply pw_below_drewN | apply below_drew1 | refine below_set ?_ GE281.out) | exact HB.out)) hb); clear BK281; clear HB; have BK281 := n0_; have HB := n1_; clear n0_ n1_; (try clear hb); (try clear hb2); (try clear hk); (try clear hi); have hcz62_0 : w61.cell? ⟨gb281, 0, none⟩ = some (.bool a2_0) := (blk_cell BK281.out 0).trans rfl; have hcz62_1 : w61.cell? ⟨gb281, 1, none⟩ = some (.slice A2_1 l2_1.length c2_1) := (blk_cell BK281.out 1).trans rfl; have hcz62_2 : w61.cell? ⟨gb281, 2, none⟩ = some (.int .i64 a2_2) := (blk_cell BK281.out 2).trans rfl; have hcz62_3 : w61.cell? ⟨gb281, 3, none⟩ = some (.int .i64 a2_3) := (blk_cell BK281.out 3).trans rfl; have hfz62_0 := blk_frozen BK281.out 0; have hfz62_1 := blk_frozen BK281.out 1; have hfz62_2 := blk_frozen BK281.out 2; have hfz62_3 := blk_frozen BK281.out 3) | ((with_reducible refine gate_callee (f := 32) rfl ?_); refine goesL_ (some 24) rfl rfl Tryd.func32 (by kernel_rfl) rfl #[.agg #[.bool a2_0, .slice A2_1 l2_1.length c2_1, .int .i64 a2_2, .int .i64 a2_3]] rfl (by (try simp only [List.map_toArray, List.map_cons, List.map_nil]); first | done | rfl | (simp only [List.length_drop, List.length_take]; rfl)) ?_; (with_reducible refine (exact_Right.calls a2_0 _ _ l2_1 a2_2 a2_3 false _ ?side1 ?side2 A5.out).mono ?_); (case side1 => repeat (first | exact (Kd.C_below HR2_1.out HB.out) | (with_reducible refine Kd.C_alloc ?_ _) | (with_reducible refine Kd.C_drewN ?_ _) | (with_reducible refine Kd.C_drew ?_))); (case side2 => exact HC2_1.out); rintro e w63 ⟨rfl, hb⟩; refine ⟨_, rfl, ?_⟩; have n0_ := Aside0.mk (blk_below (g := gb281) (o := .cells #[.bool a2_0, .slice A2_1 l2_1.length c2_1, .int .i64 a2_2, .int .i64 a2_3] 25 (0, 0)) (by (with_reducible repeat (first | refine blk_drewN ?_ _ | refine blk_drew ?_ | refine blk_alloc ?_ _)); exact BK281.out) hb); have n1_ := Aside0.mk (below_step (by repeat (first | (with_reducible first | exact HB.out | apply below_alloc | apply pw_below_drewN | apply below_drew1 | refine below_set ?_ GE281.out) | exact HB.out)) hb); clear BK281; clear HB; have BK281 := n0_; have HB := n1_; clear n0_ n1_; (try clear hb); (try clear hb2); (try clear hk); (try clear hi)))
    go_ret3
    exact ⟨by first | rfl | (simp [errW_none, errW_some] <;> rfl) | (simp [*, errW_none, errW_some] <;> rfl), by repeat (first | (with_reducible first | exact HB.out | apply below_alloc | apply pw_below_drewN | apply below_drew1 | refine below_set ?_ GE281.out) | exact HB.out)⟩

def round_large.j0 : Nat → Bool → Int → Bool → Int → Int → Int → Int → Int → Int → Int → Option (Int)
  | 0, _, _, _, _, _, _, _, _, _, _ => none
  | k + 1, x3, x11, x26, x298000, x298001, x298002, x298003, x298004, x298005, x298006 => if x26 = true then (some x11) else (if x298005 = 0 then (some x298006) else (if x3 = true then ((forms_Form_Sign.f x298000 x298001 x298002 x298003 x298004 x298005 x298006).bind fun t302 => (some (Go.bits .or .u64 x298005 t302))) else (some x298005)))
def round_large.f (k : Nat) (a0_0 : Int) (a0_1 : Int) (a0_2 : Int) (a0_3 : Int) (a0_4 : Int) (a0_5 : Int) (a0_6 : Int) (a1 : Int) (a2 : Int) (a3 : Bool) : Option (Int) := (value_Most.f a1 a3).bind fun bt298 => ((value_Pattern.f a1 a3 bt298.1).bind fun bt300 => (if a2 = 1 then (round_large.j0 k a3 bt300.1 true a0_0 a0_1 a0_2 a0_3 a0_4 a0_5 a0_6) else (if a0_0 = 1 then (round_large.j0 k a3 bt300.1 true a0_0 a0_1 a0_2 a0_3 a0_4 a0_5 a0_6) else (round_large.j0 k a3 bt300.1 ((Go.bits .or .u64 a0_5 a0_6) == 0) a0_0 a0_1 a0_2 a0_3 a0_4 a0_5 a0_6))))
theorem round_large.mono_l : ∀ k, (∀ y0 y1 y2 y3 y4 y5 y6 y7 y8 y9, LeO (round_large.j0 k y0 y1 y2 y3 y4 y5 y6 y7 y8 y9) (round_large.j0 (k + 1) y0 y1 y2 y3 y4 y5 y6 y7 y8 y9))
  | 0 => fun _ _ _ _ _ _ _ _ _ _ r h => by simp [round_large.j0] at h
  | k + 1 => by
    have ih0 := round_large.mono_l k
    · intro y0 y1 y2 y3 y4 y5 y6 y7 y8 y9
      unfold round_large.j0
      repeat' first
      | (with_reducible exact ih0 _ _ _ _ _ _ _ _ _ _)
      | (with_reducible exact LeO.refl _)
      | (with_reducible exact LeO.none _)
      | (with_reducible refine LeO.ite ?_ ?_)
      | (with_reducible refine LeO.bind ?_ (fun _ => ?_))
      | exact ih0 _ _ _ _ _ _ _ _ _ _
      | exact LeO.none _
      | refine LeO.ite ?_ ?_
      | refine LeO.bind ?_ (fun _ => ?_)
theorem round_large.mono : ∀ a0 a1 a2 a3 a4 a5 a6 a7 a8 a9 k, LeO (round_large.f k a0 a1 a2 a3 a4 a5 a6 a7 a8 a9) (round_large.f (k + 1) a0 a1 a2 a3 a4 a5 a6 a7 a8 a9) := by
  intro a0 a1 a2 a3 a4 a5 a6 a7 a8 a9 k
  have ih0 := round_large.mono_l k
  unfold round_large.f
  repeat' first
      | (with_reducible exact ih0 _ _ _ _ _ _ _ _ _ _)
      | (with_reducible exact LeO.refl _)
      | (with_reducible exact LeO.none _)
      | (with_reducible refine LeO.ite ?_ ?_)
      | (with_reducible refine LeO.bind ?_ (fun _ => ?_))
      | exact ih0 _ _ _ _ _ _ _ _ _ _
      | exact LeO.none _
      | refine LeO.ite ?_ ?_
      | refine LeO.bind ?_ (fun _ => ?_)
set_option maxHeartbeats 8000000 in
set_option maxRecDepth 100000 in
theorem round_large.calls (k : Nat) (a0_0 : Int) (a0_1 : Int) (a0_2 : Int) (a0_3 : Int) (a0_4 : Int) (a0_5 : Int) (a0_6 : Int) (a1 : Int) (a2 : Int) (a3 : Bool) (r : Int) (w : World) (hG : Glob w) (h : round_large.f k a0_0 a0_1 a0_2 a0_3 a0_4 a0_5 a0_6 a1 a2 a3 = some r) :
    Calls Tryd.prog 34 #[.agg #[.int .i64 a0_0, .int .i64 a0_1, .int .i64 a0_2, .int .i64 a0_3, .int .u64 a0_4, .int .u64 a0_5, .int .u64 a0_6], .int .i64 a1, .int .i64 a2, .bool a3] w fun e w' => e = .returned (.int .u64 r) ∧ Below w.heap.size w w' := by
  have hu51 := Tryd.underlying51
  have HG := Aside0.mk hG
  clear hG
  have HB := Aside0.mk (Below.refl w.heap.size w)
  have H : ((value_Most.f a1 a3).bind fun bt298 => ((value_Pattern.f a1 a3 bt298.1).bind fun bt300 => (if a2 = 1 then (round_large.j0 k a3 bt300.1 true a0_0 a0_1 a0_2 a0_3 a0_4 a0_5 a0_6) else (if a0_0 = 1 then (round_large.j0 k a3 bt300.1 true a0_0 a0_1 a0_2 a0_3 a0_4 a0_5 a0_6) else (round_large.j0 k a3 bt300.1 ((Go.bits .or .u64 a0_5 a0_6) == 0) a0_0 a0_1 a0_2 a0_3 a0_4 a0_5 a0_6))))) = some r := h
  clear h
  replace H := Option.bind_eq_some_iff.mp H
  obtain ⟨⟨t298, t299⟩, A50, H⟩ := H
  replace H : ((value_Pattern.f a1 a3 t298).bind fun bt300 => (if a2 = 1 then (round_large.j0 k a3 bt300.1 true a0_0 a0_1 a0_2 a0_3 a0_4 a0_5 a0_6) else (if a0_0 = 1 then (round_large.j0 k a3 bt300.1 true a0_0 a0_1 a0_2 a0_3 a0_4 a0_5 a0_6) else (round_large.j0 k a3 bt300.1 ((Go.bits .or .u64 a0_5 a0_6) == 0) a0_0 a0_1 a0_2 a0_3 a0_4 a0_5 a0_6)))) = some r := H
  have A5 := Aside0.mk A50
  clear A50
  replace H := Option.bind_eq_some_iff.mp H
  obtain ⟨⟨t300, t301⟩, A60, H⟩ := H
  replace H : (if a2 = 1 then (round_large.j0 k a3 t300 true a0_0 a0_1 a0_2 a0_3 a0_4 a0_5 a0_6) else (if a0_0 = 1 then (round_large.j0 k a3 t300 true a0_0 a0_1 a0_2 a0_3 a0_4 a0_5 a0_6) else (round_large.j0 k a3 t300 ((Go.bits .or .u64 a0_5 a0_6) == 0) a0_0 a0_1 a0_2 a0_3 a0_4 a0_5 a0_6))) = some r := H
  have A6 := Aside0.mk A60
  clear A60
  have HC7 := Aside0.mk H
  clear H
  go_enter Tryd.func34, Tryd.ntmps34
  go_upto_region 3 with (first | ((with_reducible refine gate_dst (N := 4) rfl ?_); refine box_event ?hg (N := 4) ?hd (cs := #[.int .i64 a0_0, .int .i64 a0_1, .int .i64 a0_2, .int .i64 a0_3, .int .u64 a0_4, .int .u64 a0_5, .int .u64 a0_6]) (t := 51) ?hr ?_; (case hd => rfl); (case hg => rfl); (case hr => first | (go_simp; done) | (go_simp; rfl)); intro gb297 hg w8 hbox hb; have n0_ := Aside0.mk (below_step (by repeat (first | (with_reducible first | exact HB.out | apply below_alloc | apply pw_below_drewN | apply below_drew1) | exact HB.out)) hb); have n1_ := Aside0.mk (hbox); have n2_ := Aside0.mk ((by rw [hg]; exact (below_size (by repeat (first | (with_reducible first | exact HB.out | apply below_alloc | apply pw_below_drewN | apply below_drew1) | exact HB.out))) : w.heap.size ≤ gb297)); have n3_ := Aside0.mk ((by rw [hg]; exact (below_size (by repeat (first | (with_reducible first | exact HB.out | apply below_alloc | apply pw_below_drewN | apply below_drew1) | exact HB.out))) : w.heap.size ≤ gb297)); clear HB; have HB := n0_; have BK297 := n1_; have GW297 := n2_; have GE297 := n3_; clear n0_ n1_ n2_ n3_; clear hb hbox hg) | ((with_reducible refine gate_callee (f := 22) rfl ?_); refine goesL_ (some 16) rfl rfl Tryd.func22 (by kernel_rfl) rfl #[.int .i64 a1, .bool a3] rfl (by (try simp only [List.map_toArray, List.map_cons, List.map_nil]); first | done | rfl | (simp only [List.length_drop, List.length_take]; rfl)) ?_; (with_reducible refine (value_Most.calls a1 a3 t298 t299 _ ?side1 A5.out).mono ?_); (case side1 => exact Glob.below HG.out (by repeat (first | (with_reducible first | exact HB.out | apply below_alloc | apply pw_below_drewN | apply below_drew1 | refine below_set ?_ GE297.out) | exact HB.out))); rintro e w9 ⟨rfl, hb⟩; refine ⟨_, rfl, ?_⟩; have n0_ := Aside0.mk (blk_below (g := gb297) (o := .cells #[.int .i64 a0_0, .int .i64 a0_1, .int .i64 a0_2, .int .i64 a0_3, .int .u64 a0_4, .int .u64 a0_5, .int .u64 a0_6] 51 (0, 0)) (by (with_reducible repeat (first | refine blk_drewN ?_ _ | refine blk_drew ?_ | refine blk_alloc ?_ _)); exact BK297.out) hb); have n1_ := Aside0.mk (below_step (by repeat (first | (with_reducible first | exact HB.out | apply below_alloc | apply pw_below_drewN | apply below_drew1 | refine below_set ?_ GE297.out) | exact HB.out)) hb); clear BK297; clear HB; have BK297 := n0_; have HB := n1_; clear n0_ n1_; (try clear hb); (try clear hb2); (try clear hk); (try clear hi)) | ((with_reducible refine gate_callee (f := 35) rfl ?_); refine goesL_ (some 23) rfl rfl Tryd.func35 (by kernel_rfl) rfl #[.int .i64 a1, .bool a3, .int .u64 t298] rfl (by (try simp only [List.map_toArray, List.map_cons, List.map_nil]); first | done | rfl | (simp only [List.length_drop, List.length_take]; rfl)) ?_; (with_reducible refine (value_Pattern.calls a1 a3 t298 t300 t301 _ ?side1 A6.out).mono ?_); (case side1 => exact Glob.below HG.out (by repeat (first | (with_reducible first | exact HB.out | apply below_alloc | apply pw_below_drewN | apply below_drew1 | refine below_set ?_ GE297.out) | exact HB.out))); rintro e w10 ⟨rfl, hb⟩; refine ⟨_, rfl, ?_⟩; have n0_ := Aside0.mk (blk_below (g := gb297) (o := .cells #[.int .i64 a0_0, .int .i64 a0_1, .int .i64 a0_2, .int .i64 a0_3, .int .u64 a0_4, .int .u64 a0_5, .int .u64 a0_6] 51 (0, 0)) (by (with_reducible repeat (first | refine blk_drewN ?_ _ | refine blk_drew ?_ | refine blk_alloc ?_ _)); exact BK297.out) hb); have n1_ := Aside0.mk (below_step (by repeat (first | (with_reducible first | exact HB.out | apply below_alloc | apply pw_below_drewN | apply below_drew1 | refine below_set ?_ GE297.out) | exact HB.out)) hb); clear BK297; clear HB; have BK297 := n0_; have HB := n1_; clear n0_ n1_; (try clear hb); (try clear hb2); (try clear hk); (try clear hi)))
  (try simp only [Act.put, List.setIfInBounds_toArray, List.set_cons_zero, List.set_cons_succ])
  go_cut [26] (fun v26 wc => ∃ (kq : Nat) (x26_6 : Bool), v26 = .bool x26_6 ∧ Aside0 (round_large.j0 kq a3 t300 x26_6 a0_0 a0_1 a0_2 a0_3 a0_4 a0_5 a0_6 = some r) ∧ Aside0 (kq ≤ k) ∧ Aside0 (wc.heap[gb297]? = some (.cells #[.int .i64 a0_0, .int .i64 a0_1, .int .i64 a0_2, .int .i64 a0_3, .int .u64 a0_4, .int .u64 a0_5, .int .u64 a0_6] 51 (0, 0))) ∧ Aside0 (Below w.heap.size w wc))
  case first =>
    have H := HC7.out
    clear HC7
    by_cases c11 : a2 = 1
    · rw [if_pos c11] at H
      have c11b0 : (a2 == 1) = true := beq_iff_eq.mpr c11
      have c11b1 : (a2 != 1) = false := bne_eq_false_iff_eq.mpr c11
      clear c11
      (first | rw [c11b0] | (simp only [i64_w, i32_w]; rw [c11b0]) | skip)
      have H' := Aside0.mk H
      clear H
      go_wp2
      go_meet
      case rel => exact ⟨_, (true), (by first | rfl | (simp; done) | (simp [*]; done)), H', ⟨by first | omega | exact Nat.le_refl _⟩, ⟨by (with_reducible repeat (first | refine blk_drewN ?_ _ | refine blk_drew ?_ | refine blk_alloc ?_ _)); exact BK297.out⟩, ⟨by repeat (first | (with_reducible first | exact HB.out | apply below_alloc | apply pw_below_drewN | apply below_drew1 | refine below_set ?_ GE297.out) | exact HB.out)⟩⟩
    · rw [if_neg c11] at H
      have c11b0 : (a2 == 1) = false := beq_eq_false_iff_ne.mpr c11
      have c11b1 : (a2 != 1) = true := bne_iff_ne.mpr c11
      (first | rw [c11b0] | (simp only [i64_w, i32_w]; rw [c11b0]) | skip)
      by_cases c12 : a0_0 = 1
      · rw [if_pos c12] at H
        have c12b0 : (a0_0 == 1) = true := beq_iff_eq.mpr c12
        have c12b1 : (a0_0 != 1) = false := bne_eq_false_iff_eq.mpr c12
        clear c12
        have H' := Aside0.mk H
        clear H
        have hcz13_0 : w10.cell? ⟨gb297, 0, none⟩ = some (.int .i64 a0_0) := (blk_cell BK297.out 0).trans rfl
        have hcz13_1 : w10.cell? ⟨gb297, 1, none⟩ = some (.int .i64 a0_1) := (blk_cell BK297.out 1).trans rfl
        have hcz13_2 : w10.cell? ⟨gb297, 2, none⟩ = some (.int .i64 a0_2) := (blk_cell BK297.out 2).trans rfl
        have hcz13_3 : w10.cell? ⟨gb297, 3, none⟩ = some (.int .i64 a0_3) := (blk_cell BK297.out 3).trans rfl
        have hcz13_4 : w10.cell? ⟨gb297, 4, none⟩ = some (.int .u64 a0_4) := (blk_cell BK297.out 4).trans rfl
        have hcz13_5 : w10.cell? ⟨gb297, 5, none⟩ = some (.int .u64 a0_5) := (blk_cell BK297.out 5).trans rfl
        have hcz13_6 : w10.cell? ⟨gb297, 6, none⟩ = some (.int .u64 a0_6) := (blk_cell BK297.out 6).trans rfl
        have hfz13_0 := blk_frozen BK297.out 0
        have hfz13_1 := blk_frozen BK297.out 1
        have hfz13_2 := blk_frozen BK297.out 2
        have hfz13_3 := blk_frozen BK297.out 3
        have hfz13_4 := blk_frozen BK297.out 4
        have hfz13_5 := blk_frozen BK297.out 5
        have hfz13_6 := blk_frozen BK297.out 6
        go_wp2
        go_meet
        case rel => exact ⟨_, (true), (by first | rfl | (simp; done) | (simp [*]; done)), H', ⟨by first | omega | exact Nat.le_refl _⟩, ⟨by (with_reducible repeat (first | refine blk_drewN ?_ _ | refine blk_drew ?_ | refine blk_alloc ?_ _)); exact BK297.out⟩, ⟨by repeat (first | (with_reducible first | exact HB.out | apply below_alloc | apply pw_below_drewN | apply below_drew1 | refine below_set ?_ GE297.out) | exact HB.out)⟩⟩
      · rw [if_neg c12] at H
        have c12b0 : (a0_0 == 1) = false := beq_eq_false_iff_ne.mpr c12
        have c12b1 : (a0_0 != 1) = true := bne_iff_ne.mpr c12
        have H' := Aside0.mk H
        clear H
        have hcz14_0 : w10.cell? ⟨gb297, 0, none⟩ = some (.int .i64 a0_0) := (blk_cell BK297.out 0).trans rfl
        have hcz14_1 : w10.cell? ⟨gb297, 1, none⟩ = some (.int .i64 a0_1) := (blk_cell BK297.out 1).trans rfl
        have hcz14_2 : w10.cell? ⟨gb297, 2, none⟩ = some (.int .i64 a0_2) := (blk_cell BK297.out 2).trans rfl
        have hcz14_3 : w10.cell? ⟨gb297, 3, none⟩ = some (.int .i64 a0_3) := (blk_cell BK297.out 3).trans rfl
        have hcz14_4 : w10.cell? ⟨gb297, 4, none⟩ = some (.int .u64 a0_4) := (blk_cell BK297.out 4).trans rfl
        have hcz14_5 : w10.cell? ⟨gb297, 5, none⟩ = some (.int .u64 a0_5) := (blk_cell BK297.out 5).trans rfl
        have hcz14_6 : w10.cell? ⟨gb297, 6, none⟩ = some (.int .u64 a0_6) := (blk_cell BK297.out 6).trans rfl
        have hfz14_0 := blk_frozen BK297.out 0
        have hfz14_1 := blk_frozen BK297.out 1
        have hfz14_2 := blk_frozen BK297.out 2
        have hfz14_3 := blk_frozen BK297.out 3
        have hfz14_4 := blk_frozen BK297.out 4
        have hfz14_5 := blk_frozen BK297.out 5
        have hfz14_6 := blk_frozen BK297.out 6
        go_wp2
        go_meet
        case rel => exact ⟨_, (((Go.bits .or .u64 a0_5 a0_6) == 0)), (by first | rfl | (simp; done) | (simp [*]; done)), H', ⟨by first | omega | exact Nat.le_refl _⟩, ⟨by (with_reducible repeat (first | refine blk_drewN ?_ _ | refine blk_drew ?_ | refine blk_alloc ?_ _)); exact BK297.out⟩, ⟨by repeat (first | (with_reducible first | exact HB.out | apply below_alloc | apply pw_below_drewN | apply below_drew1 | refine below_set ?_ GE297.out) | exact HB.out)⟩⟩
  case rest =>
    clear HC7
    try clear c1
    try clear c2
    try clear p2
    try clear c3
    try clear c11
    try clear c11b0
    try clear c11b1
    try clear c12
    try clear c12b0
    try clear c12b1
    try clear hcz13_0
    try clear hcz13_1
    try clear hcz13_2
    try clear hcz13_3
    try clear hcz13_4
    try clear hcz13_5
    try clear hcz13_6
    try clear hcz14_0
    try clear hcz14_1
    try clear hcz14_2
    try clear hcz14_3
    try clear hcz14_4
    try clear hcz14_5
    try clear hcz14_6
    try clear hfz13_0
    try clear hfz13_1
    try clear hfz13_2
    try clear hfz13_3
    try clear hfz13_4
    try clear hfz13_5
    try clear hfz13_6
    try clear hfz14_0
    try clear hfz14_1
    try clear hfz14_2
    try clear hfz14_3
    try clear hfz14_4
    try clear hfz14_5
    try clear hfz14_6
    obtain ⟨kq, x26_6, rfl, HA, HJ6, BK297, HB⟩ := hcut
    cases kq with
    | zero => exact absurd HA.out (by simp [round_large.j0])
    | succ kj6 =>
      have H := HA.out
      clear HA
      simp only [round_large.j0] at H
      by_cases c15 : x26_6 = true
      · subst c15
        have H1 : (some t300) = some r := by rw [if_pos rfl] at H; exact H
        clear H
        have H := H1
        clear H1
        obtain rfl := Option.some.inj H
        go_wp2
        go_ret
        exact ⟨by first | rfl | (simp [errW_none, errW_some] <;> rfl) | (simp [*, errW_none, errW_some] <;> rfl), by repeat (first | (with_reducible first | exact HB.out | apply below_alloc | apply pw_below_drewN | apply below_drew1 | refine below_set ?_ GE297.out) | exact HB.out)⟩
      · replace c15 := Bool.eq_false_iff.mpr c15
        subst c15
        have H1 : (if a0_5 = 0 then (some a0_6) else (if a3 = true then ((forms_Form_Sign.f a0_0 a0_1 a0_2 a0_3 a0_4 a0_5 a0_6).bind fun t302 => (some (Go.bits .or .u64 a0_5 t302))) else (some a0_5))) = some r := by rw [if_neg (show ¬ (false = true) by decide)] at H; exact H
        clear H
        have H := H1
        clear H1
        by_cases c16 : a0_5 = 0
        · rw [if_pos c16] at H
          have c16b0 : (a0_5 == 0) = true := beq_iff_eq.mpr c16
          have c16b1 : (a0_5 != 0) = false := bne_eq_false_iff_eq.mpr c16
          clear c16
          obtain rfl := Option.some.inj H
          have hcz17_0 : wc.cell? ⟨gb297, 0, none⟩ = some (.int .i64 a0_0) := (blk_cell BK297.out 0).trans rfl
          have hcz17_1 : wc.cell? ⟨gb297, 1, none⟩ = some (.int .i64 a0_1) := (blk_cell BK297.out 1).trans rfl
          have hcz17_2 : wc.cell? ⟨gb297, 2, none⟩ = some (.int .i64 a0_2) := (blk_cell BK297.out 2).trans rfl
          have hcz17_3 : wc.cell? ⟨gb297, 3, none⟩ = some (.int .i64 a0_3) := (blk_cell BK297.out 3).trans rfl
          have hcz17_4 : wc.cell? ⟨gb297, 4, none⟩ = some (.int .u64 a0_4) := (blk_cell BK297.out 4).trans rfl
          have hcz17_5 : wc.cell? ⟨gb297, 5, none⟩ = some (.int .u64 a0_5) := (blk_cell BK297.out 5).trans rfl
          have hcz17_6 : wc.cell? ⟨gb297, 6, none⟩ = some (.int .u64 a0_6) := (blk_cell BK297.out 6).trans rfl
          have hfz17_0 := blk_frozen BK297.out 0
          have hfz17_1 := blk_frozen BK297.out 1
          have hfz17_2 := blk_frozen BK297.out 2
          have hfz17_3 := blk_frozen BK297.out 3
          have hfz17_4 := blk_frozen BK297.out 4
          have hfz17_5 := blk_frozen BK297.out 5
          have hfz17_6 := blk_frozen BK297.out 6
          go_wp2
          go_ret
          exact ⟨by first | rfl | (simp [errW_none, errW_some] <;> rfl) | (simp [*, errW_none, errW_some] <;> rfl), by repeat (first | (with_reducible first | exact HB.out | apply below_alloc | apply pw_below_drewN | apply below_drew1 | refine below_set ?_ GE297.out) | exact HB.out)⟩
        · rw [if_neg c16] at H
          have c16b0 : (a0_5 == 0) = false := beq_eq_false_iff_ne.mpr c16
          have c16b1 : (a0_5 != 0) = true := bne_iff_ne.mpr c16
          by_cases c18 : a3 = true
          · subst c18
            have H1 : ((forms_Form_Sign.f a0_0 a0_1 a0_2 a0_3 a0_4 a0_5 a0_6).bind fun t302 => (some (Go.bits .or .u64 a0_5 t302))) = some r := by rw [if_pos rfl] at H; exact H
            clear H
            have H := H1
            clear H1
            replace H := Option.bind_eq_some_iff.mp H
            obtain ⟨t302, A190, H⟩ := H
            replace H : (some (Go.bits .or .u64 a0_5 t302)) = some r := H
            have A19 := Aside0.mk A190
            clear A190
            obtain rfl := Option.some.inj H
            have hcz20_0 : wc.cell? ⟨gb297, 0, none⟩ = some (.int .i64 a0_0) := (blk_cell BK297.out 0).trans rfl
            have hcz20_1 : wc.cell? ⟨gb297, 1, none⟩ = some (.int .i64 a0_1) := (blk_cell BK297.out 1).trans rfl
            have hcz20_2 : wc.cell? ⟨gb297, 2, none⟩ = some (.int .i64 a0_2) := (blk_cell BK297.out 2).trans rfl
            have hcz20_3 : wc.cell? ⟨gb297, 3, none⟩ = some (.int .i64 a0_3) := (blk_cell BK297.out 3).trans rfl
            have hcz20_4 : wc.cell? ⟨gb297, 4, none⟩ = some (.int .u64 a0_4) := (blk_cell BK297.out 4).trans rfl
            have hcz20_5 : wc.cell? ⟨gb297, 5, none⟩ = some (.int .u64 a0_5) := (blk_cell BK297.out 5).trans rfl
            have hcz20_6 : wc.cell? ⟨gb297, 6, none⟩ = some (.int .u64 a0_6) := (blk_cell BK297.out 6).trans rfl
            have hfz20_0 := blk_frozen BK297.out 0
            have hfz20_1 := blk_frozen BK297.out 1
            have hfz20_2 := blk_frozen BK297.out 2
            have hfz20_3 := blk_frozen BK297.out 3
            have hfz20_4 := blk_frozen BK297.out 4
            have hfz20_5 := blk_frozen BK297.out 5
            have hfz20_6 := blk_frozen BK297.out 6
            try go_wp2
            have n0_ := Aside0.mk (blk_drew BK297.out)
            have n1_ := Aside0.mk (below_drew1 HB.out)
            clear BK297
            clear HB
            have BK297 := n0_
            have HB := n1_
            clear n0_ n1_
            refine start_ (n := 6) (S := fun w' => w'.cell? ⟨gb297, 0, none⟩ = some (.int .i64 a0_0) ∧ w'.cell? ⟨gb297, 1, none⟩ = some (.int .i64 a0_1) ∧ w'.cell? ⟨gb297, 2, none⟩ = some (.int .i64 a0_2) ∧ w'.cell? ⟨gb297, 3, none⟩ = some (.int .i64 a0_3) ∧ w'.cell? ⟨gb297, 4, none⟩ = some (.int .u64 a0_4) ∧ w'.cell? ⟨gb297, 5, none⟩ = some (.int .u64 a0_5) ∧ w'.cell? ⟨gb297, 6, none⟩ = some (.int .u64 a0_6)) (ds := []) #[false, false, false, false, false, false] (by kernel_rfl) rfl rfl ⟨(blk_cell BK297.out 0).trans rfl, (blk_cell BK297.out 1).trans rfl, (blk_cell BK297.out 2).trans rfl, (blk_cell BK297.out 3).trans rfl, (blk_cell BK297.out 4).trans rfl, (blk_cell BK297.out 5).trans rfl, (blk_cell BK297.out 6).trans rfl⟩ (fun hHeld => ?_)
            generalize wc.drew = w21 at BK297 HB hHeld ⊢
            refine pure_ (i := 0) (N := some 51) (v := ?_) (a' := ?_) #[true, false, false, false, false, false] rfl rfl (by kernel_rfl) (fun _ _ _ h => h) (Or.inl ⟨by rfl, ?_⟩) ?_ ?_
            rotate_left
            · intro w'
              go_simp
              with_reducible rfl
            rotate_left
            · simp only [Act.put, List.setIfInBounds_toArray, List.set_cons_zero, List.set_cons_succ, i64_w, i32_w]
              rfl
            refine take_ (i := 1) (N := some 52) (v := ?_) (a' := ?_) #[true, true, false, false, false, false] rfl rfl (by kernel_rfl) (fun _ _ _ h => h) (Or.inl ⟨by rfl, ?_⟩) hHeld ?_ ?_
            rotate_left
            · rintro w' ⟨s0, s1, s2, s3, s4, s5, s6⟩
              go_simp
              with_reducible rfl
            rotate_left
            · simp only [Act.put, List.setIfInBounds_toArray, List.set_cons_zero, List.set_cons_succ, i64_w, i32_w]
              rfl
            refine take_ (i := 2) (N := some 53) (v := ?_) (a' := ?_) #[true, true, true, false, false, false] rfl rfl (by kernel_rfl) (fun _ _ _ h => h) (Or.inl ⟨by rfl, ?_⟩) hHeld ?_ ?_
            rotate_left
            · rintro w' ⟨s0, s1, s2, s3, s4, s5, s6⟩
              go_simp
              with_reducible rfl
            rotate_left
            · simp only [Act.put, List.setIfInBounds_toArray, List.set_cons_zero, List.set_cons_succ, i64_w, i32_w]
              rfl
            refine one_ (i := 3) (N := some 54) #[true, true, true, true, false, false] rfl rfl (by kernel_rfl) (by decide) (fun K hK => ?_)
            refine goes_ Tryd.func24 (by kernel_rfl) rfl #[.agg #[.int .i64 a0_0, .int .i64 a0_1, .int .i64 a0_2, .int .i64 a0_3, .int .u64 a0_4, .int .u64 a0_5, .int .u64 a0_6]] (by rfl) rfl rfl (by (try simp only [List.map_toArray, List.map_cons, List.map_nil]); first | done | rfl | (simp only [List.length_drop, List.length_take]; rfl)) ?_
            with_reducible refine (forms_Form_Sign.calls a0_0 a0_1 a0_2 a0_3 a0_4 a0_5 a0_6 t302 _ A19.out).mono ?_
            rintro e w22 ⟨rfl, hb⟩
            refine ⟨_, rfl, ?_⟩
            have n0_ := Aside0.mk (blk_below (g := gb297) (o := .cells #[.int .i64 a0_0, .int .i64 a0_1, .int .i64 a0_2, .int .i64 a0_3, .int .u64 a0_4, .int .u64 a0_5, .int .u64 a0_6] 51 (0, 0)) (by (with_reducible repeat (first | refine blk_drewN ?_ _ | refine blk_drew ?_ | refine blk_alloc ?_ _)); exact BK297.out) hb)
            have n1_ := Aside0.mk (below_step (by repeat (first | (with_reducible first | exact HB.out | apply below_alloc | apply pw_below_drewN | apply below_drew1 | refine below_set ?_ GE297.out) | exact HB.out)) hb)
            clear BK297
            clear HB
            have BK297 := n0_
            have HB := n1_
            clear n0_ n1_
            (try clear hb)
            (try clear hb2)
            (try clear hk)
            (try clear hi)
            refine hK.out _ _ ⟨(blk_cell BK297.out 0).trans rfl, (blk_cell BK297.out 1).trans rfl, (blk_cell BK297.out 2).trans rfl, (blk_cell BK297.out 3).trans rfl, (blk_cell BK297.out 4).trans rfl, (blk_cell BK297.out 5).trans rfl, (blk_cell BK297.out 6).trans rfl⟩ (fun hHeld => ?_)
            clear hK K
            refine norm_ (a' := ?_) ?_ ?_
            rotate_left
            · show Act.put _ (some 54) _ = _
              simp only [Act.put, List.setIfInBounds_toArray, List.set_cons_zero, List.set_cons_succ, i64_w, i32_w]
              rfl
            refine pure_ (i := 4) (N := some 55) (v := ?_) (a' := ?_) #[true, true, true, true, true, false] rfl rfl (by kernel_rfl) (fun _ _ _ h => h) (Or.inl ⟨by rfl, ?_⟩) ?_ ?_
            rotate_left
            · intro w'
              go_simp
              with_reducible rfl
            rotate_left
            · simp only [Act.put, List.setIfInBounds_toArray, List.set_cons_zero, List.set_cons_succ, i64_w, i32_w]
              rfl
            refine pure_ (i := 5) (N := some 8) (v := ?_) (a' := ?_) #[true, true, true, true, true, true] rfl rfl (by kernel_rfl) (fun _ _ _ h => h) (Or.inl ⟨by rfl, ?_⟩) ?_ ?_
            rotate_left
            · intro w'
              go_simp
              with_reducible rfl
            rotate_left
            · simp only [Act.put, List.setIfInBounds_toArray, List.set_cons_zero, List.set_cons_succ, i64_w, i32_w]
              rfl
            refine done_ (by kernel_rfl) ?_
            try go_wp2
            go_ret
            exact ⟨by first | rfl | (simp [errW_none, errW_some] <;> rfl) | (simp [*, errW_none, errW_some] <;> rfl), by repeat (first | (with_reducible first | exact HB.out | apply below_alloc | apply pw_below_drewN | apply below_drew1 | refine below_set ?_ GE297.out) | exact HB.out)⟩
          · replace c18 := Bool.eq_false_iff.mpr c18
            subst c18
            have H1 : (some a0_5) = some r := by rw [if_neg (show ¬ (false = true) by decide)] at H; exact H
            clear H
            have H := H1
            clear H1
            obtain rfl := Option.some.inj H
            have hcz23_0 : wc.cell? ⟨gb297, 0, none⟩ = some (.int .i64 a0_0) := (blk_cell BK297.out 0).trans rfl
            have hcz23_1 : wc.cell? ⟨gb297, 1, none⟩ = some (.int .i64 a0_1) := (blk_cell BK297.out 1).trans rfl
            have hcz23_2 : wc.cell? ⟨gb297, 2, none⟩ = some (.int .i64 a0_2) := (blk_cell BK297.out 2).trans rfl
            have hcz23_3 : wc.cell? ⟨gb297, 3, none⟩ = some (.int .i64 a0_3) := (blk_cell BK297.out 3).trans rfl
            have hcz23_4 : wc.cell? ⟨gb297, 4, none⟩ = some (.int .u64 a0_4) := (blk_cell BK297.out 4).trans rfl
            have hcz23_5 : wc.cell? ⟨gb297, 5, none⟩ = some (.int .u64 a0_5) := (blk_cell BK297.out 5).trans rfl
            have hcz23_6 : wc.cell? ⟨gb297, 6, none⟩ = some (.int .u64 a0_6) := (blk_cell BK297.out 6).trans rfl
            have hfz23_0 := blk_frozen BK297.out 0
            have hfz23_1 := blk_frozen BK297.out 1
            have hfz23_2 := blk_frozen BK297.out 2
            have hfz23_3 := blk_frozen BK297.out 3
            have hfz23_4 := blk_frozen BK297.out 4
            have hfz23_5 := blk_frozen BK297.out 5
            have hfz23_6 := blk_frozen BK297.out 6
            go_wp2
            go_ret
            exact ⟨by first | rfl | (simp [errW_none, errW_some] <;> rfl) | (simp [*, errW_none, errW_some] <;> rfl), by repeat (first | (with_reducible first | exact HB.out | apply below_alloc | apply pw_below_drewN | apply below_drew1 | refine below_set ?_ GE297.out) | exact HB.out)⟩

end Go.Proofs.YtmcodbgbjjldnaaDoor.Pr
