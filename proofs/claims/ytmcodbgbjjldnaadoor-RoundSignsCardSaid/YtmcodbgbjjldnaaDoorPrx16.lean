import Derived.Test.YtmcodbgbjjldnaaDoorPrx0
import Derived.Test.YtmcodbgbjjldnaaDoorPrx1
import Derived.Test.YtmcodbgbjjldnaaDoorPrx4
import Derived.Test.YtmcodbgbjjldnaaDoorPrx14
import Derived.Test.YtmcodbgbjjldnaaDoorGivA
import Derived.Test.YtmcodbgbjjldnaaDoorGivS
namespace Go.Proofs.YtmcodbgbjjldnaaDoor.Pr
open Go.RowKit Go.Proofs.YtmcodbgbjjldnaaDoorW.PrintWords Go.Proofs.YtmcodbgbjjldnaaDoorW.PrintLast Go.Proofs.YtmcodbgbjjldnaaDoorW.PrintMore
attribute [local go_sem] max2_int min2_int max_two min_two max_three min_three max_four min_four   -- for this text's walks alone
set_option linter.unusedVariables false
set_option linter.unusedSimpArgs false

mutual
def caliperlaw08_RoundSigns.j0 : Nat → Int → Bool → Bool → Bool → Bool → List Int → Int → Int → Int → Int → Int → Int → Int → Int → Int → Option (Bool)
  | 0, _, _, _, _, _, _, _, _, _, _, _, _, _, _, _ => none
  | k + 1, x0, x1, x7, x35, x388000, x388001, x388002, x388003, x404000, x404001, x404002, x404003, x404004, x404005, x404006 => if x35 = true then (some x7) else (if x1 = true then (caliperlaw08_RoundSigns.j1 k x0 x7 2 x388000 x388001 x388002 x388003 x404000 x404001 x404002 x404003 x404004 x404005 x404006) else (caliperlaw08_RoundSigns.j1 k x0 x7 1 x388000 x388001 x388002 x388003 x404000 x404001 x404002 x404003 x404004 x404005 x404006))
def caliperlaw08_RoundSigns.j1 : Nat → Int → Bool → Int → Bool → List Int → Int → Int → Int → Int → Int → Int → Int → Int → Int → Option (Bool)
  | 0, _, _, _, _, _, _, _, _, _, _, _, _, _, _ => none
  | k + 1, x0, x7, x10, x388000, x388001, x388002, x388003, x404000, x404001, x404002, x404003, x404004, x404005, x404006 => (round_Round.f k x0 x10 x388000 x388001 x388002 x388003).bind fun bt405 => ((round_Round.f k x0 x10 (!x388000) x388001 x388002 x388003).bind fun bt407 => (if bt405.2 = 0 then (caliperlaw08_RoundSigns.j2 k x7 x10 bt405.1 bt407.1 (bt407.2 != 0) x404000 x404001 x404002 x404003 x404004 x404005 x404006) else (caliperlaw08_RoundSigns.j2 k x7 x10 bt405.1 bt407.1 true x404000 x404001 x404002 x404003 x404004 x404005 x404006)))
def caliperlaw08_RoundSigns.j2 : Nat → Bool → Int → Int → Int → Bool → Int → Int → Int → Int → Int → Int → Int → Option (Bool)
  | 0, _, _, _, _, _, _, _, _, _, _, _, _ => none
  | k + 1, x7, x10, x12, x14, x62, x404000, x404001, x404002, x404003, x404004, x404005, x404006 => if x62 = true then (some false) else (if x404006 = 0 then (caliperlaw08_RoundSigns.j3 k x7 x10 x12 x14 false x404000 x404001 x404002 x404003 x404004 x404005 x404006) else (caliperlaw08_RoundSigns.j3 k x7 x10 x12 x14 (x12 == x404006) x404000 x404001 x404002 x404003 x404004 x404005 x404006))
def caliperlaw08_RoundSigns.j3 : Nat → Bool → Int → Int → Int → Bool → Int → Int → Int → Int → Int → Int → Int → Option (Bool)
  | 0, _, _, _, _, _, _, _, _, _, _, _, _ => none
  | k + 1, x7, x10, x12, x14, x71, x404000, x404001, x404002, x404003, x404004, x404005, x404006 => if x71 = true then (if x7 = true then (if x14 = x12 then (if x404005 = 0 then (some (x10 == 2)) else (some false)) else (some false)) else (some false)) else (if x404000 = 2 then (if x7 = true then ((forms_Form_Sign.f x404000 x404001 x404002 x404003 x404004 x404005 x404006).bind fun t409 => (some (x14 == (Go.bits .xor .u64 x12 t409)))) else (some false)) else (if x7 = true then ((forms_Form_Mask.f x404000 x404001 x404002 x404003 x404004 x404005 x404006).bind fun t410 => (some (x14 == (Go.bits .and .u64 (IntKind.u64.wrap (-x12)) t410)))) else (some false)))
end
def caliperlaw08_RoundSigns.f (k : Nat) (a0 : Int) (a1 : Bool) (a2_0 : Bool) (l2_1 : List Int) (a2_2 : Int) (a2_3 : Int) : Option (Bool) := (caliperlaw08_shown.f).bind fun t388 => ((caliperlaw08_small.f k a2_0 l2_1 a2_2 a2_3).bind fun bt389 => ((forms_Of.f a0).bind fun bt395 => (if bt395.2.2.2.2.2.2.2 = 0 then (if bt395.1 = 3 then (caliperlaw08_RoundSigns.j0 k a0 a1 t388 true bt389.1 bt389.2.1 bt389.2.2.1 bt389.2.2.2 bt395.1 bt395.2.1 bt395.2.2.1 bt395.2.2.2.1 bt395.2.2.2.2.1 bt395.2.2.2.2.2.1 bt395.2.2.2.2.2.2.1) else (caliperlaw08_RoundSigns.j0 k a0 a1 t388 (bt395.1 == 4) bt389.1 bt389.2.1 bt389.2.2.1 bt389.2.2.2 bt395.1 bt395.2.1 bt395.2.2.1 bt395.2.2.2.1 bt395.2.2.2.2.1 bt395.2.2.2.2.2.1 bt395.2.2.2.2.2.2.1)) else (caliperlaw08_RoundSigns.j0 k a0 a1 t388 true bt389.1 bt389.2.1 bt389.2.2.1 bt389.2.2.2 bt395.1 bt395.2.1 bt395.2.2.1 bt395.2.2.2.1 bt395.2.2.2.2.1 bt395.2.2.2.2.2.1 bt395.2.2.2.2.2.2.1))))
set_option maxHeartbeats 8000000 in
set_option maxRecDepth 100000 in
theorem caliperlaw08_RoundSigns.calls (k : Nat) (a0 : Int) (a1 : Bool) (a2_0 : Bool) (A2_1 : Option Addr) (c2_1 : Nat) (l2_1 : List Int) (a2_2 : Int) (a2_3 : Int) (r : Bool) (w : World) (hG : Glob w) (hr2_1 : Kd.C (Kd.int .u64) w A2_1 l2_1.length l2_1) (hc2_1 : l2_1.length ≤ c2_1) (h : caliperlaw08_RoundSigns.f k a0 a1 a2_0 l2_1 a2_2 a2_3 = some r) :
    Calls Tryd.prog 6 #[.int .i64 a0, .bool a1, .agg #[.bool a2_0, .slice A2_1 l2_1.length c2_1, .int .i64 a2_2, .int .i64 a2_3]] w fun e w' => e = .returned (.bool r) ∧ Below w.heap.size w w' := by
  have hu25 := Tryd.underlying25
  have hu51 := Tryd.underlying51
  have HR2_1 := Aside0.mk hr2_1
  have HC2_1 := Aside0.mk hc2_1
  clear hr2_1 hc2_1
  have HG := Aside0.mk hG
  clear hG
  have HB := Aside0.mk (Below.refl w.heap.size w)
  have H : ((caliperlaw08_shown.f).bind fun t388 => ((caliperlaw08_small.f k a2_0 l2_1 a2_2 a2_3).bind fun bt389 => ((forms_Of.f a0).bind fun bt395 => (if bt395.2.2.2.2.2.2.2 = 0 then (if bt395.1 = 3 then (caliperlaw08_RoundSigns.j0 k a0 a1 t388 true bt389.1 bt389.2.1 bt389.2.2.1 bt389.2.2.2 bt395.1 bt395.2.1 bt395.2.2.1 bt395.2.2.2.1 bt395.2.2.2.2.1 bt395.2.2.2.2.2.1 bt395.2.2.2.2.2.2.1) else (caliperlaw08_RoundSigns.j0 k a0 a1 t388 (bt395.1 == 4) bt389.1 bt389.2.1 bt389.2.2.1 bt389.2.2.2 bt395.1 bt395.2.1 bt395.2.2.1 bt395.2.2.2.1 bt395.2.2.2.2.1 bt395.2.2.2.2.2.1 bt395.2.2.2.2.2.2.1)) else (caliperlaw08_RoundSigns.j0 k a0 a1 t388 true bt389.1 bt389.2.1 bt389.2.2.1 bt389.2.2.2 bt395.1 bt395.2.1 bt395.2.2.1 bt395.2.2.2.1 bt395.2.2.2.2.1 bt395.2.2.2.2.2.1 bt395.2.2.2.2.2.2.1))))) = some r := h
  clear h
  replace H := Option.bind_eq_some_iff.mp H
  obtain ⟨t388, A40, H⟩ := H
  replace H : ((caliperlaw08_small.f k a2_0 l2_1 a2_2 a2_3).bind fun bt389 => ((forms_Of.f a0).bind fun bt395 => (if bt395.2.2.2.2.2.2.2 = 0 then (if bt395.1 = 3 then (caliperlaw08_RoundSigns.j0 k a0 a1 t388 true bt389.1 bt389.2.1 bt389.2.2.1 bt389.2.2.2 bt395.1 bt395.2.1 bt395.2.2.1 bt395.2.2.2.1 bt395.2.2.2.2.1 bt395.2.2.2.2.2.1 bt395.2.2.2.2.2.2.1) else (caliperlaw08_RoundSigns.j0 k a0 a1 t388 (bt395.1 == 4) bt389.1 bt389.2.1 bt389.2.2.1 bt389.2.2.2 bt395.1 bt395.2.1 bt395.2.2.1 bt395.2.2.2.1 bt395.2.2.2.2.1 bt395.2.2.2.2.2.1 bt395.2.2.2.2.2.2.1)) else (caliperlaw08_RoundSigns.j0 k a0 a1 t388 true bt389.1 bt389.2.1 bt389.2.2.1 bt389.2.2.2 bt395.1 bt395.2.1 bt395.2.2.1 bt395.2.2.2.1 bt395.2.2.2.2.1 bt395.2.2.2.2.2.1 bt395.2.2.2.2.2.2.1)))) = some r := H
  have A4 := Aside0.mk A40
  clear A40
  replace H := Option.bind_eq_some_iff.mp H
  obtain ⟨⟨t389, t390, t393, t394⟩, A50, H⟩ := H
  replace H : ((forms_Of.f a0).bind fun bt395 => (if bt395.2.2.2.2.2.2.2 = 0 then (if bt395.1 = 3 then (caliperlaw08_RoundSigns.j0 k a0 a1 t388 true t389 t390 t393 t394 bt395.1 bt395.2.1 bt395.2.2.1 bt395.2.2.2.1 bt395.2.2.2.2.1 bt395.2.2.2.2.2.1 bt395.2.2.2.2.2.2.1) else (caliperlaw08_RoundSigns.j0 k a0 a1 t388 (bt395.1 == 4) t389 t390 t393 t394 bt395.1 bt395.2.1 bt395.2.2.1 bt395.2.2.2.1 bt395.2.2.2.2.1 bt395.2.2.2.2.2.1 bt395.2.2.2.2.2.2.1)) else (caliperlaw08_RoundSigns.j0 k a0 a1 t388 true t389 t390 t393 t394 bt395.1 bt395.2.1 bt395.2.2.1 bt395.2.2.2.1 bt395.2.2.2.2.1 bt395.2.2.2.2.2.1 bt395.2.2.2.2.2.2.1))) = some r := H
  have A5 := Aside0.mk A50
  clear A50
  replace H := Option.bind_eq_some_iff.mp H
  obtain ⟨⟨t395, t396, t397, t398, t399, t400, t401, t402⟩, A60, H⟩ := H
  replace H : (if t402 = 0 then (if t395 = 3 then (caliperlaw08_RoundSigns.j0 k a0 a1 t388 true t389 t390 t393 t394 t395 t396 t397 t398 t399 t400 t401) else (caliperlaw08_RoundSigns.j0 k a0 a1 t388 (t395 == 4) t389 t390 t393 t394 t395 t396 t397 t398 t399 t400 t401)) else (caliperlaw08_RoundSigns.j0 k a0 a1 t388 true t389 t390 t393 t394 t395 t396 t397 t398 t399 t400 t401)) = some r := H
  have A6 := Aside0.mk A60
  clear A60
  have HC7 := Aside0.mk H
  clear H
  go_enter Tryd.func6, Tryd.ntmps6
  go_upto_region 4 with (first | ((with_reducible refine gate_dst (N := 5) rfl ?_); refine box_event ?hg (N := 5) ?hd (cs := #[.bool a2_0, .slice A2_1 l2_1.length c2_1, .int .i64 a2_2, .int .i64 a2_3]) (t := 25) ?hr ?_; (case hd => rfl); (case hg => rfl); (case hr => first | (go_simp; done) | (go_simp; rfl)); intro gb387 hg w8 hbox hb; have n0_ := Aside0.mk (below_step (by repeat (first | (with_reducible first | exact HB.out | apply below_alloc | apply pw_below_drewN | apply below_drew1) | exact HB.out)) hb); have n1_ := Aside0.mk (hbox); have n2_ := Aside0.mk ((by rw [hg]; exact (below_size (by repeat (first | (with_reducible first | exact HB.out | apply below_alloc | apply pw_below_drewN | apply below_drew1) | exact HB.out))) : w.heap.size ≤ gb387)); have n3_ := Aside0.mk ((by rw [hg]; exact (below_size (by repeat (first | (with_reducible first | exact HB.out | apply below_alloc | apply pw_below_drewN | apply below_drew1) | exact HB.out))) : w.heap.size ≤ gb387)); clear HB; have HB := n0_; have BK387 := n1_; have GW387 := n2_; have GE387 := n3_; clear n0_ n1_ n2_ n3_; clear hb hbox hg) | ((with_reducible refine gate_callee (f := 11) rfl ?_); refine goesL_ (some 16) rfl rfl Tryd.func11 (by kernel_rfl) rfl #[] rfl (by (try simp only [List.map_toArray, List.map_cons, List.map_nil]); first | done | rfl | (simp only [List.length_drop, List.length_take]; rfl)) ?_; (with_reducible refine (caliperlaw08_shown.calls  t388 _ ?side1 A4.out).mono ?_); (case side1 => exact Glob.below HG.out (by repeat (first | (with_reducible first | exact HB.out | apply below_alloc | apply pw_below_drewN | apply below_drew1 | refine below_set ?_ GE387.out) | exact HB.out))); rintro e w9 ⟨rfl, hb⟩; refine ⟨_, rfl, ?_⟩; have n0_ := Aside0.mk (blk_below (g := gb387) (o := .cells #[.bool a2_0, .slice A2_1 l2_1.length c2_1, .int .i64 a2_2, .int .i64 a2_3] 25 (0, 0)) (by (with_reducible repeat (first | refine blk_drewN ?_ _ | refine blk_drew ?_ | refine blk_alloc ?_ _)); exact BK387.out) hb); have n1_ := Aside0.mk (below_step (by repeat (first | (with_reducible first | exact HB.out | apply below_alloc | apply pw_below_drewN | apply below_drew1 | refine below_set ?_ GE387.out) | exact HB.out)) hb); clear BK387; clear HB; have BK387 := n0_; have HB := n1_; clear n0_ n1_; (try clear hb); (try clear hb2); (try clear hk); (try clear hi); have hcz10_0 : w9.cell? ⟨gb387, 0, none⟩ = some (.bool a2_0) := (blk_cell BK387.out 0).trans rfl; have hcz10_1 : w9.cell? ⟨gb387, 1, none⟩ = some (.slice A2_1 l2_1.length c2_1) := (blk_cell BK387.out 1).trans rfl; have hcz10_2 : w9.cell? ⟨gb387, 2, none⟩ = some (.int .i64 a2_2) := (blk_cell BK387.out 2).trans rfl; have hcz10_3 : w9.cell? ⟨gb387, 3, none⟩ = some (.int .i64 a2_3) := (blk_cell BK387.out 3).trans rfl; have hfz10_0 := blk_frozen BK387.out 0; have hfz10_1 := blk_frozen BK387.out 1; have hfz10_2 := blk_frozen BK387.out 2; have hfz10_3 := blk_frozen BK387.out 3) | ((with_reducible refine gate_callee (f := 12) rfl ?_); refine goesL_ (some 18) rfl rfl Tryd.func12 (by kernel_rfl) rfl #[.agg #[.bool a2_0, .slice A2_1 l2_1.length c2_1, .int .i64 a2_2, .int .i64 a2_3]] rfl (by (try simp only [List.map_toArray, List.map_cons, List.map_nil]); first | done | rfl | (simp only [List.length_drop, List.length_take]; rfl)) ?_; (with_reducible refine (caliperlaw08_small.calls k a2_0 (fun k_ => k_ < w.heap.size) _ _ l2_1 a2_2 a2_3 t389 t390 t393 t394 _ ?side1 A5.out).mono ?_); (case side1 => exact Kd.V_mk HC2_1.out (Kd.F_below (Kd.C_F (Kd.heap_int .u64) HR2_1.out) (by repeat (first | (with_reducible first | exact HB.out | apply below_alloc | apply pw_below_drewN | apply below_drew1 | refine below_set ?_ GE387.out) | exact HB.out)))); rintro e w11 ⟨v391, rfl, ho0, hb⟩; refine ⟨_, rfl, ?_⟩; have n0_ := Aside0.mk (Kd.V_lower (Kd.V_mono (ok' := fun k_ => k_ ≠ gb387) ho0 (fun k_ hk_ => Or.elim hk_ (fun hs_ => fun e_ => Nat.not_le.2 hs_ (by rw [e_]; exact GW387.out)) (fun hn_ => (Kd.freshB (g := gb387) (o := .cells #[.bool a2_0, .slice A2_1 l2_1.length c2_1, .int .i64 a2_2, .int .i64 a2_3] 25 (0, 0)) (by (with_reducible repeat (first | refine blk_drewN ?_ _ | refine blk_drew ?_ | refine blk_alloc ?_ _)); exact BK387.out) k_ hn_)))) (below_size (by repeat (first | (with_reducible first | exact HB.out | apply below_alloc | apply pw_below_drewN | apply below_drew1 | refine below_set ?_ GE387.out) | exact HB.out)))); have n1_ := Aside0.mk (blk_below (g := gb387) (o := .cells #[.bool a2_0, .slice A2_1 l2_1.length c2_1, .int .i64 a2_2, .int .i64 a2_3] 25 (0, 0)) (by (with_reducible repeat (first | refine blk_drewN ?_ _ | refine blk_drew ?_ | refine blk_alloc ?_ _)); exact BK387.out) hb); have n2_ := Aside0.mk (below_step (by repeat (first | (with_reducible first | exact HB.out | apply below_alloc | apply pw_below_drewN | apply below_drew1 | refine below_set ?_ GE387.out) | exact HB.out)) hb); clear BK387; clear HB; have HO392 := n0_; have BK387 := n1_; have HB := n2_; clear n0_ n1_ n2_; (try clear hb); (try clear hb2); (try clear hk); (try clear hi); (try clear ho0); have hcz12_0 : w11.cell? ⟨gb387, 0, none⟩ = some (.bool a2_0) := (blk_cell BK387.out 0).trans rfl; have hcz12_1 : w11.cell? ⟨gb387, 1, none⟩ = some (.slice A2_1 l2_1.length c2_1) := (blk_cell BK387.out 1).trans rfl; have hcz12_2 : w11.cell? ⟨gb387, 2, none⟩ = some (.int .i64 a2_2) := (blk_cell BK387.out 2).trans rfl; have hcz12_3 : w11.cell? ⟨gb387, 3, none⟩ = some (.int .i64 a2_3) := (blk_cell BK387.out 3).trans rfl; have hfz12_0 := blk_frozen BK387.out 0; have hfz12_1 := blk_frozen BK387.out 1; have hfz12_2 := blk_frozen BK387.out 2; have hfz12_3 := blk_frozen BK387.out 3; obtain ⟨Ao13, co13, eo13⟩ := Kd.V_slice HO392.out; subst eo13) | ((with_reducible refine gate_callee (f := 23) rfl ?_); refine goesL_ (some 21) rfl rfl Tryd.func23 (by kernel_rfl) rfl #[.int .i64 a0] rfl (by (try simp only [List.map_toArray, List.map_cons, List.map_nil]); first | done | rfl | (simp only [List.length_drop, List.length_take]; rfl)) ?_; (with_reducible refine (forms_Of.calls a0 t395 t396 t397 t398 t399 t400 t401 t402 _ ?side1 A6.out).mono ?_); (case side1 => exact Glob.below HG.out (by repeat (first | (with_reducible first | exact HB.out | apply below_alloc | apply pw_below_drewN | apply below_drew1 | refine below_set ?_ GE387.out) | exact HB.out))); rintro e w14 ⟨rfl, hb⟩; refine ⟨_, rfl, ?_⟩; have n0_ := Aside0.mk (Kd.V_below (by (with_reducible repeat (first | apply Kd.V_alloc | apply Kd.V_drewN | apply Kd.V_drew)); exact (Kd.V_mono (Kd.V_far (p := ⟨gb387, 3, none⟩) (Kd.V_far (p := ⟨gb387, 2, none⟩) (Kd.V_far (p := ⟨gb387, 1, none⟩) (Kd.V_far (p := ⟨gb387, 0, none⟩) (Kd.V_mono HO392.out (fun k_ hk => (⟨hk, hk⟩ : _ ∧ k_ ≠ gb387))) (fun _ hk => hk.2) (.bool t389)) (fun _ hk => hk.2) (.slice Ao13 t390.length co13)) (fun _ hk => hk.2) (.int .i64 t393)) (fun _ hk => hk.2) (.int .i64 t394)) (fun _ h_ => h_.1))) hb); have n1_ := Aside0.mk (blk_below (g := gb387) (o := .cells #[.bool t389, .slice Ao13 t390.length co13, .int .i64 t393, .int .i64 t394] 25 (0, 0)) (by (with_reducible repeat (first | refine blk_drewN ?_ _ | refine blk_drew ?_ | refine blk_alloc ?_ _)); refine blk_put (cs := #[.bool t389, .slice Ao13 t390.length co13, .int .i64 t393, .int .i64 a2_3]) ?_ 3 _ rfl; (with_reducible repeat (first | refine blk_drewN ?_ _ | refine blk_drew ?_ | refine blk_alloc ?_ _)); refine blk_put (cs := #[.bool t389, .slice Ao13 t390.length co13, .int .i64 a2_2, .int .i64 a2_3]) ?_ 2 _ rfl; (with_reducible repeat (first | refine blk_drewN ?_ _ | refine blk_drew ?_ | refine blk_alloc ?_ _)); refine blk_put (cs := #[.bool t389, .slice A2_1 l2_1.length c2_1, .int .i64 a2_2, .int .i64 a2_3]) ?_ 1 _ rfl; (with_reducible repeat (first | refine blk_drewN ?_ _ | refine blk_drew ?_ | refine blk_alloc ?_ _)); refine blk_put (cs := #[.bool a2_0, .slice A2_1 l2_1.length c2_1, .int .i64 a2_2, .int .i64 a2_3]) ?_ 0 _ rfl; (with_reducible repeat (first | refine blk_drewN ?_ _ | refine blk_drew ?_ | refine blk_alloc ?_ _)); exact BK387.out) hb); have n2_ := Aside0.mk (below_step (by repeat (first | (with_reducible first | exact HB.out | apply below_alloc | apply pw_below_drewN | apply below_drew1 | refine below_set ?_ GE387.out) | exact HB.out)) hb); clear HO392; clear BK387; clear HB; have HO392 := n0_; have BK387 := n1_; have HB := n2_; clear n0_ n1_ n2_; (try clear hb); (try clear hb2); (try clear hk); (try clear hi)) | ((with_reducible refine gate_dst (N := 8) rfl ?_); refine box_event ?hg (N := 8) ?hd (cs := #[.int .i64 0, .int .i64 0, .int .i64 0, .int .i64 0, .int .u64 0, .int .u64 0, .int .u64 0]) (t := 51) ?hr ?_; (case hd => rfl); (case hg => rfl); (case hr => first | (go_simp; done) | (go_simp; rfl)); intro gb403 hg w15 hbox hb; have n0_ := Aside0.mk (Kd.V_below (Kd.V_elderB (by (with_reducible repeat (first | apply Kd.V_alloc | apply Kd.V_drewN | apply Kd.V_drew)); exact HO392.out) gb403 (Nat.le_of_eq hg.symm)) hb); have n1_ := Aside0.mk (blk_below (g := gb387) (o := .cells #[.bool t389, .slice Ao13 t390.length co13, .int .i64 t393, .int .i64 t394] 25 (0, 0)) (by (with_reducible repeat (first | refine blk_drewN ?_ _ | refine blk_drew ?_ | refine blk_alloc ?_ _)); exact BK387.out) hb); have n2_ := Aside0.mk (below_step (by repeat (first | (with_reducible first | exact HB.out | apply below_alloc | apply pw_below_drewN | apply below_drew1 | refine below_set ?_ GE387.out) | exact HB.out)) hb); have n3_ := Aside0.mk (hbox); have n4_ := Aside0.mk ((by rw [hg]; exact (below_size (by repeat (first | (with_reducible first | exact HB.out | apply below_alloc | apply pw_below_drewN | apply below_drew1 | refine below_set ?_ GE387.out) | exact HB.out))) : w.heap.size ≤ gb403)); have n5_ := Aside0.mk ((by rw [hg]; exact (below_size (by repeat (first | (with_reducible first | exact HB.out | apply below_alloc | apply pw_below_drewN | apply below_drew1 | refine below_set ?_ GE387.out) | exact HB.out))) : w.heap.size ≤ gb403)); have n6_ := Aside0.mk ((by rw [hg]; exact Nat.ne_of_lt (blk_lt (g := gb387) (o := .cells #[.bool t389, .slice Ao13 t390.length co13, .int .i64 t393, .int .i64 t394] 25 (0, 0)) (by (with_reducible repeat (first | refine blk_drewN ?_ _ | refine blk_drew ?_ | refine blk_alloc ?_ _)); exact BK387.out)) : gb387 ≠ gb403)); have n7_ := Aside0.mk ((by rw [hg]; exact Nat.ne_of_gt (blk_lt (g := gb387) (o := .cells #[.bool t389, .slice Ao13 t390.length co13, .int .i64 t393, .int .i64 t394] 25 (0, 0)) (by (with_reducible repeat (first | refine blk_drewN ?_ _ | refine blk_drew ?_ | refine blk_alloc ?_ _)); exact BK387.out)) : gb403 ≠ gb387)); clear HO392; clear BK387; clear HB; have HO392 := n0_; have BK387 := n1_; have HB := n2_; have BK403 := n3_; have GW403 := n4_; have GE403 := n5_; have NB387_403 := n6_; have NB403_387 := n7_; clear n0_ n1_ n2_ n3_ n4_ n5_ n6_ n7_; clear hb hbox hg; have hnb16 := NB403_387.out; have hnc16 := NB387_403.out; have hcz17_0 : w15.cell? ⟨gb403, 0, none⟩ = some (.int .i64 0) := (blk_cell BK403.out 0).trans rfl; have hcz17_1 : w15.cell? ⟨gb403, 1, none⟩ = some (.int .i64 0) := (blk_cell BK403.out 1).trans rfl; have hcz17_2 : w15.cell? ⟨gb403, 2, none⟩ = some (.int .i64 0) := (blk_cell BK403.out 2).trans rfl; have hcz17_3 : w15.cell? ⟨gb403, 3, none⟩ = some (.int .i64 0) := (blk_cell BK403.out 3).trans rfl; have hcz17_4 : w15.cell? ⟨gb403, 4, none⟩ = some (.int .u64 0) := (blk_cell BK403.out 4).trans rfl; have hcz17_5 : w15.cell? ⟨gb403, 5, none⟩ = some (.int .u64 0) := (blk_cell BK403.out 5).trans rfl; have hcz17_6 : w15.cell? ⟨gb403, 6, none⟩ = some (.int .u64 0) := (blk_cell BK403.out 6).trans rfl; have hfz17_0 := blk_frozen BK403.out 0; have hfz17_1 := blk_frozen BK403.out 1; have hfz17_2 := blk_frozen BK403.out 2; have hfz17_3 := blk_frozen BK403.out 3; have hfz17_4 := blk_frozen BK403.out 4; have hfz17_5 := blk_frozen BK403.out 5; have hfz17_6 := blk_frozen BK403.out 6))
  (try simp only [Act.put, List.setIfInBounds_toArray, List.set_cons_zero, List.set_cons_succ])
  go_cut [35] (fun v35 wc => ∃ (kq : Nat) (x35_6 : Bool), v35 = .bool x35_6 ∧ Aside0 (caliperlaw08_RoundSigns.j0 kq a0 a1 t388 x35_6 t389 t390 t393 t394 t395 t396 t397 t398 t399 t400 t401 = some r) ∧ Aside0 (kq ≤ k) ∧ Aside0 (Kd.V (Kd.int .u64) 28 wc w.heap.size (fun k_ => k_ ≠ gb387 ∧ k_ ≠ gb403) (.slice Ao13 t390.length co13) t390) ∧ Aside0 (wc.heap[gb387]? = some (.cells #[.bool t389, (.slice Ao13 t390.length co13), .int .i64 t393, .int .i64 t394] 25 (0, 0))) ∧ Aside0 (wc.heap[gb403]? = some (.cells #[.int .i64 t395, .int .i64 t396, .int .i64 t397, .int .i64 t398, .int .u64 t399, .int .u64 t400, .int .u64 t401] 51 (0, 0))) ∧ Aside0 (Below w.heap.size w wc))
  case first =>
    have H := HC7.out
    clear HC7
    by_cases c18 : t402 = 0
    · rw [if_pos c18] at H
      have c18b0 : (t402 == 0) = true := beq_iff_eq.mpr c18
      have c18b1 : (t402 != 0) = false := bne_eq_false_iff_eq.mpr c18
      clear c18
      (first | rw [c18b0] | (simp only [i64_w, i32_w]; rw [c18b0]) | skip)
      by_cases c19 : t395 = 3
      · rw [if_pos c19] at H
        have c19b0 : (t395 == 3) = true := beq_iff_eq.mpr c19
        have c19b1 : (t395 != 3) = false := bne_eq_false_iff_eq.mpr c19
        clear c19
        have H' := Aside0.mk H
        clear H
        have hnb20 := NB403_387.out
        have hnc20 := NB387_403.out
        have hcz21_0 : w15.cell? ⟨gb403, 0, none⟩ = some (.int .i64 0) := (blk_cell BK403.out 0).trans rfl
        have hcz21_1 : w15.cell? ⟨gb403, 1, none⟩ = some (.int .i64 0) := (blk_cell BK403.out 1).trans rfl
        have hcz21_2 : w15.cell? ⟨gb403, 2, none⟩ = some (.int .i64 0) := (blk_cell BK403.out 2).trans rfl
        have hcz21_3 : w15.cell? ⟨gb403, 3, none⟩ = some (.int .i64 0) := (blk_cell BK403.out 3).trans rfl
        have hcz21_4 : w15.cell? ⟨gb403, 4, none⟩ = some (.int .u64 0) := (blk_cell BK403.out 4).trans rfl
        have hcz21_5 : w15.cell? ⟨gb403, 5, none⟩ = some (.int .u64 0) := (blk_cell BK403.out 5).trans rfl
        have hcz21_6 : w15.cell? ⟨gb403, 6, none⟩ = some (.int .u64 0) := (blk_cell BK403.out 6).trans rfl
        have hfz21_0 := blk_frozen BK403.out 0
        have hfz21_1 := blk_frozen BK403.out 1
        have hfz21_2 := blk_frozen BK403.out 2
        have hfz21_3 := blk_frozen BK403.out 3
        have hfz21_4 := blk_frozen BK403.out 4
        have hfz21_5 := blk_frozen BK403.out 5
        have hfz21_6 := blk_frozen BK403.out 6
        go_wp2
        go_meet
        case rel => exact ⟨_, (true), (by first | rfl | (simp; done) | (simp [*]; done)), H', ⟨by first | omega | exact Nat.le_refl _⟩, ⟨by (with_reducible repeat (first | apply Kd.V_alloc | apply Kd.V_drewN | apply Kd.V_drew)); exact Kd.V_mono (Kd.V_far (p := ⟨gb403, 6, none⟩) (Kd.V_far (p := ⟨gb403, 5, none⟩) (Kd.V_far (p := ⟨gb403, 4, none⟩) (Kd.V_far (p := ⟨gb403, 3, none⟩) (Kd.V_far (p := ⟨gb403, 2, none⟩) (Kd.V_far (p := ⟨gb403, 1, none⟩) (Kd.V_far (p := ⟨gb403, 0, none⟩) (Kd.V_mono HO392.out (fun k_ hk => (⟨hk, hk.2⟩ : _ ∧ k_ ≠ gb403))) (fun _ hk => hk.2) (.int .i64 t395)) (fun _ hk => hk.2) (.int .i64 t396)) (fun _ hk => hk.2) (.int .i64 t397)) (fun _ hk => hk.2) (.int .i64 t398)) (fun _ hk => hk.2) (.int .u64 t399)) (fun _ hk => hk.2) (.int .u64 t400)) (fun _ hk => hk.2) (.int .u64 t401)) (fun _ hk => ⟨hk.1.1, hk.1.2⟩)⟩, ⟨by (with_reducible repeat (first | refine blk_drewN ?_ _ | refine blk_drew ?_ | refine blk_alloc ?_ _)); refine blk_far ?_ NB387_403.out _; (with_reducible repeat (first | refine blk_drewN ?_ _ | refine blk_drew ?_ | refine blk_alloc ?_ _)); refine blk_far ?_ NB387_403.out _; (with_reducible repeat (first | refine blk_drewN ?_ _ | refine blk_drew ?_ | refine blk_alloc ?_ _)); refine blk_far ?_ NB387_403.out _; (with_reducible repeat (first | refine blk_drewN ?_ _ | refine blk_drew ?_ | refine blk_alloc ?_ _)); refine blk_far ?_ NB387_403.out _; (with_reducible repeat (first | refine blk_drewN ?_ _ | refine blk_drew ?_ | refine blk_alloc ?_ _)); refine blk_far ?_ NB387_403.out _; (with_reducible repeat (first | refine blk_drewN ?_ _ | refine blk_drew ?_ | refine blk_alloc ?_ _)); refine blk_far ?_ NB387_403.out _; (with_reducible repeat (first | refine blk_drewN ?_ _ | refine blk_drew ?_ | refine blk_alloc ?_ _)); refine blk_far ?_ NB387_403.out _; (with_reducible repeat (first | refine blk_drewN ?_ _ | refine blk_drew ?_ | refine blk_alloc ?_ _)); exact BK387.out⟩, ⟨by (with_reducible repeat (first | refine blk_drewN ?_ _ | refine blk_drew ?_ | refine blk_alloc ?_ _)); refine blk_put (cs := #[.int .i64 t395, .int .i64 t396, .int .i64 t397, .int .i64 t398, .int .u64 t399, .int .u64 t400, .int .u64 0]) ?_ 6 _ rfl; (with_reducible repeat (first | refine blk_drewN ?_ _ | refine blk_drew ?_ | refine blk_alloc ?_ _)); refine blk_put (cs := #[.int .i64 t395, .int .i64 t396, .int .i64 t397, .int .i64 t398, .int .u64 t399, .int .u64 0, .int .u64 0]) ?_ 5 _ rfl; (with_reducible repeat (first | refine blk_drewN ?_ _ | refine blk_drew ?_ | refine blk_alloc ?_ _)); refine blk_put (cs := #[.int .i64 t395, .int .i64 t396, .int .i64 t397, .int .i64 t398, .int .u64 0, .int .u64 0, .int .u64 0]) ?_ 4 _ rfl; (with_reducible repeat (first | refine blk_drewN ?_ _ | refine blk_drew ?_ | refine blk_alloc ?_ _)); refine blk_put (cs := #[.int .i64 t395, .int .i64 t396, .int .i64 t397, .int .i64 0, .int .u64 0, .int .u64 0, .int .u64 0]) ?_ 3 _ rfl; (with_reducible repeat (first | refine blk_drewN ?_ _ | refine blk_drew ?_ | refine blk_alloc ?_ _)); refine blk_put (cs := #[.int .i64 t395, .int .i64 t396, .int .i64 0, .int .i64 0, .int .u64 0, .int .u64 0, .int .u64 0]) ?_ 2 _ rfl; (with_reducible repeat (first | refine blk_drewN ?_ _ | refine blk_drew ?_ | refine blk_alloc ?_ _)); refine blk_put (cs := #[.int .i64 t395, .int .i64 0, .int .i64 0, .int .i64 0, .int .u64 0, .int .u64 0, .int .u64 0]) ?_ 1 _ rfl; (with_reducible repeat (first | refine blk_drewN ?_ _ | refine blk_drew ?_ | refine blk_alloc ?_ _)); refine blk_put (cs := #[.int .i64 0, .int .i64 0, .int .i64 0, .int .i64 0, .int .u64 0, .int .u64 0, .int .u64 0]) ?_ 0 _ rfl; (with_reducible repeat (first | refine blk_drewN ?_ _ | refine blk_drew ?_ | refine blk_alloc ?_ _)); exact BK403.out⟩, ⟨by repeat (first | (with_reducible first | exact HB.out | apply below_alloc | apply pw_below_drewN | apply below_drew1 | refine below_set ?_ GE387.out | refine below_set ?_ GE403.out) | exact HB.out)⟩⟩
      · rw [if_neg c19] at H
        have c19b0 : (t395 == 3) = false := beq_eq_false_iff_ne.mpr c19
        have c19b1 : (t395 != 3) = true := bne_iff_ne.mpr c19
        have H' := Aside0.mk H
        clear H
        have hnb22 := NB403_387.out
        have hnc22 := NB387_403.out
        have hcz23_0 : w15.cell? ⟨gb403, 0, none⟩ = some (.int .i64 0) := (blk_cell BK403.out 0).trans rfl
        have hcz23_1 : w15.cell? ⟨gb403, 1, none⟩ = some (.int .i64 0) := (blk_cell BK403.out 1).trans rfl
        have hcz23_2 : w15.cell? ⟨gb403, 2, none⟩ = some (.int .i64 0) := (blk_cell BK403.out 2).trans rfl
        have hcz23_3 : w15.cell? ⟨gb403, 3, none⟩ = some (.int .i64 0) := (blk_cell BK403.out 3).trans rfl
        have hcz23_4 : w15.cell? ⟨gb403, 4, none⟩ = some (.int .u64 0) := (blk_cell BK403.out 4).trans rfl
        have hcz23_5 : w15.cell? ⟨gb403, 5, none⟩ = some (.int .u64 0) := (blk_cell BK403.out 5).trans rfl
        have hcz23_6 : w15.cell? ⟨gb403, 6, none⟩ = some (.int .u64 0) := (blk_cell BK403.out 6).trans rfl
        have hfz23_0 := blk_frozen BK403.out 0
        have hfz23_1 := blk_frozen BK403.out 1
        have hfz23_2 := blk_frozen BK403.out 2
        have hfz23_3 := blk_frozen BK403.out 3
        have hfz23_4 := blk_frozen BK403.out 4
        have hfz23_5 := blk_frozen BK403.out 5
        have hfz23_6 := blk_frozen BK403.out 6
        go_wp2
        go_meet
        case rel => exact ⟨_, ((t395 == 4)), (by first | rfl | (simp; done) | (simp [*]; done)), H', ⟨by first | omega | exact Nat.le_refl _⟩, ⟨by (with_reducible repeat (first | apply Kd.V_alloc | apply Kd.V_drewN | apply Kd.V_drew)); exact Kd.V_mono (Kd.V_far (p := ⟨gb403, 6, none⟩) (Kd.V_far (p := ⟨gb403, 5, none⟩) (Kd.V_far (p := ⟨gb403, 4, none⟩) (Kd.V_far (p := ⟨gb403, 3, none⟩) (Kd.V_far (p := ⟨gb403, 2, none⟩) (Kd.V_far (p := ⟨gb403, 1, none⟩) (Kd.V_far (p := ⟨gb403, 0, none⟩) (Kd.V_mono HO392.out (fun k_ hk => (⟨hk, hk.2⟩ : _ ∧ k_ ≠ gb403))) (fun _ hk => hk.2) (.int .i64 t395)) (fun _ hk => hk.2) (.int .i64 t396)) (fun _ hk => hk.2) (.int .i64 t397)) (fun _ hk => hk.2) (.int .i64 t398)) (fun _ hk => hk.2) (.int .u64 t399)) (fun _ hk => hk.2) (.int .u64 t400)) (fun _ hk => hk.2) (.int .u64 t401)) (fun _ hk => ⟨hk.1.1, hk.1.2⟩)⟩, ⟨by (with_reducible repeat (first | refine blk_drewN ?_ _ | refine blk_drew ?_ | refine blk_alloc ?_ _)); refine blk_far ?_ NB387_403.out _; (with_reducible repeat (first | refine blk_drewN ?_ _ | refine blk_drew ?_ | refine blk_alloc ?_ _)); refine blk_far ?_ NB387_403.out _; (with_reducible repeat (first | refine blk_drewN ?_ _ | refine blk_drew ?_ | refine blk_alloc ?_ _)); refine blk_far ?_ NB387_403.out _; (with_reducible repeat (first | refine blk_drewN ?_ _ | refine blk_drew ?_ | refine blk_alloc ?_ _)); refine blk_far ?_ NB387_403.out _; (with_reducible repeat (first | refine blk_drewN ?_ _ | refine blk_drew ?_ | refine blk_alloc ?_ _)); refine blk_far ?_ NB387_403.out _; (with_reducible repeat (first | refine blk_drewN ?_ _ | refine blk_drew ?_ | refine blk_alloc ?_ _)); refine blk_far ?_ NB387_403.out _; (with_reducible repeat (first | refine blk_drewN ?_ _ | refine blk_drew ?_ | refine blk_alloc ?_ _)); refine blk_far ?_ NB387_403.out _; (with_reducible repeat (first | refine blk_drewN ?_ _ | refine blk_drew ?_ | refine blk_alloc ?_ _)); exact BK387.out⟩, ⟨by (with_reducible repeat (first | refine blk_drewN ?_ _ | refine blk_drew ?_ | refine blk_alloc ?_ _)); refine blk_put (cs := #[.int .i64 t395, .int .i64 t396, .int .i64 t397, .int .i64 t398, .int .u64 t399, .int .u64 t400, .int .u64 0]) ?_ 6 _ rfl; (with_reducible repeat (first | refine blk_drewN ?_ _ | refine blk_drew ?_ | refine blk_alloc ?_ _)); refine blk_put (cs := #[.int .i64 t395, .int .i64 t396, .int .i64 t397, .int .i64 t398, .int .u64 t399, .int .u64 0, .int .u64 0]) ?_ 5 _ rfl; (with_reducible repeat (first | refine blk_drewN ?_ _ | refine blk_drew ?_ | refine blk_alloc ?_ _)); refine blk_put (cs := #[.int .i64 t395, .int .i64 t396, .int .i64 t397, .int .i64 t398, .int .u64 0, .int .u64 0, .int .u64 0]) ?_ 4 _ rfl; (with_reducible repeat (first | refine blk_drewN ?_ _ | refine blk_drew ?_ | refine blk_alloc ?_ _)); refine blk_put (cs := #[.int .i64 t395, .int .i64 t396, .int .i64 t397, .int .i64 0, .int .u64 0, .int .u64 0, .int .u64 0]) ?_ 3 _ rfl; (with_reducible repeat (first | refine blk_drewN ?_ _ | refine blk_drew ?_ | refine blk_alloc ?_ _)); refine blk_put (cs := #[.int .i64 t395, .int .i64 t396, .int .i64 0, .int .i64 0, .int .u64 0, .int .u64 0, .int .u64 0]) ?_ 2 _ rfl; (with_reducible repeat (first | refine blk_drewN ?_ _ | refine blk_drew ?_ | refine blk_alloc ?_ _)); refine blk_put (cs := #[.int .i64 t395, .int .i64 0, .int .i64 0, .int .i64 0, .int .u64 0, .int .u64 0, .int .u64 0]) ?_ 1 _ rfl; (with_reducible repeat (first | refine blk_drewN ?_ _ | refine blk_drew ?_ | refine blk_alloc ?_ _)); refine blk_put (cs := #[.int .i64 0, .int .i64 0, .int .i64 0, .int .i64 0, .int .u64 0, .int .u64 0, .int .u64 0]) ?_ 0 _ rfl; (with_reducible repeat (first | refine blk_drewN ?_ _ | refine blk_drew ?_ | refine blk_alloc ?_ _)); exact BK403.out⟩, ⟨by repeat (first | (with_reducible first | exact HB.out | apply below_alloc | apply pw_below_drewN | apply below_drew1 | refine below_set ?_ GE387.out | refine below_set ?_ GE403.out) | exact HB.out)⟩⟩
    · rw [if_neg c18] at H
      have c18b0 : (t402 == 0) = false := beq_eq_false_iff_ne.mpr c18
      have c18b1 : (t402 != 0) = true := bne_iff_ne.mpr c18
      (first | rw [c18b0] | (simp only [i64_w, i32_w]; rw [c18b0]) | skip)
      have H' := Aside0.mk H
      clear H
      go_wp2
      go_meet
      case rel => exact ⟨_, (true), (by first | rfl | (simp; done) | (simp [*]; done)), H', ⟨by first | omega | exact Nat.le_refl _⟩, ⟨by (with_reducible repeat (first | apply Kd.V_alloc | apply Kd.V_drewN | apply Kd.V_drew)); exact Kd.V_mono (Kd.V_far (p := ⟨gb403, 6, none⟩) (Kd.V_far (p := ⟨gb403, 5, none⟩) (Kd.V_far (p := ⟨gb403, 4, none⟩) (Kd.V_far (p := ⟨gb403, 3, none⟩) (Kd.V_far (p := ⟨gb403, 2, none⟩) (Kd.V_far (p := ⟨gb403, 1, none⟩) (Kd.V_far (p := ⟨gb403, 0, none⟩) (Kd.V_mono HO392.out (fun k_ hk => (⟨hk, hk.2⟩ : _ ∧ k_ ≠ gb403))) (fun _ hk => hk.2) (.int .i64 t395)) (fun _ hk => hk.2) (.int .i64 t396)) (fun _ hk => hk.2) (.int .i64 t397)) (fun _ hk => hk.2) (.int .i64 t398)) (fun _ hk => hk.2) (.int .u64 t399)) (fun _ hk => hk.2) (.int .u64 t400)) (fun _ hk => hk.2) (.int .u64 t401)) (fun _ hk => ⟨hk.1.1, hk.1.2⟩)⟩, ⟨by (with_reducible repeat (first | refine blk_drewN ?_ _ | refine blk_drew ?_ | refine blk_alloc ?_ _)); refine blk_far ?_ NB387_403.out _; (with_reducible repeat (first | refine blk_drewN ?_ _ | refine blk_drew ?_ | refine blk_alloc ?_ _)); refine blk_far ?_ NB387_403.out _; (with_reducible repeat (first | refine blk_drewN ?_ _ | refine blk_drew ?_ | refine blk_alloc ?_ _)); refine blk_far ?_ NB387_403.out _; (with_reducible repeat (first | refine blk_drewN ?_ _ | refine blk_drew ?_ | refine blk_alloc ?_ _)); refine blk_far ?_ NB387_403.out _; (with_reducible repeat (first | refine blk_drewN ?_ _ | refine blk_drew ?_ | refine blk_alloc ?_ _)); refine blk_far ?_ NB387_403.out _; (with_reducible repeat (first | refine blk_drewN ?_ _ | refine blk_drew ?_ | refine blk_alloc ?_ _)); refine blk_far ?_ NB387_403.out _; (with_reducible repeat (first | refine blk_drewN ?_ _ | refine blk_drew ?_ | refine blk_alloc ?_ _)); refine blk_far ?_ NB387_403.out _; (with_reducible repeat (first | refine blk_drewN ?_ _ | refine blk_drew ?_ | refine blk_alloc ?_ _)); exact BK387.out⟩, ⟨by (with_reducible repeat (first | refine blk_drewN ?_ _ | refine blk_drew ?_ | refine blk_alloc ?_ _)); refine blk_put (cs := #[.int .i64 t395, .int .i64 t396, .int .i64 t397, .int .i64 t398, .int .u64 t399, .int .u64 t400, .int .u64 0]) ?_ 6 _ rfl; (with_reducible repeat (first | refine blk_drewN ?_ _ | refine blk_drew ?_ | refine blk_alloc ?_ _)); refine blk_put (cs := #[.int .i64 t395, .int .i64 t396, .int .i64 t397, .int .i64 t398, .int .u64 t399, .int .u64 0, .int .u64 0]) ?_ 5 _ rfl; (with_reducible repeat (first | refine blk_drewN ?_ _ | refine blk_drew ?_ | refine blk_alloc ?_ _)); refine blk_put (cs := #[.int .i64 t395, .int .i64 t396, .int .i64 t397, .int .i64 t398, .int .u64 0, .int .u64 0, .int .u64 0]) ?_ 4 _ rfl; (with_reducible repeat (first | refine blk_drewN ?_ _ | refine blk_drew ?_ | refine blk_alloc ?_ _)); refine blk_put (cs := #[.int .i64 t395, .int .i64 t396, .int .i64 t397, .int .i64 0, .int .u64 0, .int .u64 0, .int .u64 0]) ?_ 3 _ rfl; (with_reducible repeat (first | refine blk_drewN ?_ _ | refine blk_drew ?_ | refine blk_alloc ?_ _)); refine blk_put (cs := #[.int .i64 t395, .int .i64 t396, .int .i64 0, .int .i64 0, .int .u64 0, .int .u64 0, .int .u64 0]) ?_ 2 _ rfl; (with_reducible repeat (first | refine blk_drewN ?_ _ | refine blk_drew ?_ | refine blk_alloc ?_ _)); refine blk_put (cs := #[.int .i64 t395, .int .i64 0, .int .i64 0, .int .i64 0, .int .u64 0, .int .u64 0, .int .u64 0]) ?_ 1 _ rfl; (with_reducible repeat (first | refine blk_drewN ?_ _ | refine blk_drew ?_ | refine blk_alloc ?_ _)); refine blk_put (cs := #[.int .i64 0, .int .i64 0, .int .i64 0, .int .i64 0, .int .u64 0, .int .u64 0, .int .u64 0]) ?_ 0 _ rfl; (with_reducible repeat (first | refine blk_drewN ?_ _ | refine blk_drew ?_ | refine blk_alloc ?_ _)); exact BK403.out⟩, ⟨by repeat (first | (with_reducible first | exact HB.out | apply below_alloc | apply pw_below_drewN | apply below_drew1 | refine below_set ?_ GE387.out | refine below_set ?_ GE403.out) | exact HB.out)⟩⟩
  case rest =>
    clear HC7
    try clear c1
    try clear c2
    try clear p2
    try clear c6
    try clear c11
    try clear c12
    try clear c16
    try clear c18
    try clear c18b0
    try clear c18b1
    try clear c19
    try clear c19b0
    try clear c19b1
    try clear c20
    try clear c22
    try clear c23
    try clear hcz10_0
    try clear hcz10_1
    try clear hcz10_2
    try clear hcz10_3
    try clear hcz12_0
    try clear hcz12_1
    try clear hcz12_2
    try clear hcz12_3
    try clear hcz17_0
    try clear hcz17_1
    try clear hcz17_2
    try clear hcz17_3
    try clear hcz17_4
    try clear hcz17_5
    try clear hcz17_6
    try clear hcz21_0
    try clear hcz21_1
    try clear hcz21_2
    try clear hcz21_3
    try clear hcz21_4
    try clear hcz21_5
    try clear hcz21_6
    try clear hcz23_0
    try clear hcz23_1
    try clear hcz23_2
    try clear hcz23_3
    try clear hcz23_4
    try clear hcz23_5
    try clear hcz23_6
    try clear hfz10_0
    try clear hfz10_1
    try clear hfz10_2
    try clear hfz10_3
    try clear hfz12_0
    try clear hfz12_1
    try clear hfz12_2
    try clear hfz12_3
    try clear hfz17_0
    try clear hfz17_1
    try clear hfz17_2
    try clear hfz17_3
    try clear hfz17_4
    try clear hfz17_5
    try clear hfz17_6
    try clear hfz21_0
    try clear hfz21_1
    try clear hfz21_2
    try clear hfz21_3
    try clear hfz21_4
    try clear hfz21_5
    try clear hfz21_6
    try clear hfz23_0
    try clear hfz23_1
    try clear hfz23_2
    try clear hfz23_3
    try clear hfz23_4
    try clear hfz23_5
    try clear hfz23_6
    obtain ⟨kq, x35_6, rfl, HA, HJ6, HO_388001, BK387, BK403, HB⟩ := hcut
    cases kq with
    | zero => exact absurd HA.out (by simp [caliperlaw08_RoundSigns.j0])
    | succ kj6 =>
      have H := HA.out
      clear HA
      simp only [caliperlaw08_RoundSigns.j0] at H
      by_cases c24 : x35_6 = true
      · subst c24
        have H1 : (some t388) = some r := by rw [if_pos rfl] at H; exact H
        clear H
        have H := H1
        clear H1
        obtain rfl := Option.some.inj H
        go_wp2
        go_ret
        exact ⟨by first | rfl | (simp [errW_none, errW_some] <;> rfl) | (simp [*, errW_none, errW_some] <;> rfl), by repeat (first | (with_reducible first | exact HB.out | apply below_alloc | apply pw_below_drewN | apply below_drew1 | refine below_set ?_ GE387.out | refine below_set ?_ GE403.out) | exact HB.out)⟩
      · replace c24 := Bool.eq_false_iff.mpr c24
        subst c24
        have H1 : (if a1 = true then (caliperlaw08_RoundSigns.j1 kj6 a0 t388 2 t389 t390 t393 t394 t395 t396 t397 t398 t399 t400 t401) else (caliperlaw08_RoundSigns.j1 kj6 a0 t388 1 t389 t390 t393 t394 t395 t396 t397 t398 t399 t400 t401)) = some r := by rw [if_neg (show ¬ (false = true) by decide)] at H; exact H
        clear H
        have H := H1
        clear H1
        have HC25 := Aside0.mk H
        clear H
        go_upto_if 37 with (fail)
        go_cut [10] (fun v10 wc => ∃ (kq : Nat) (x10_24 : Int), v10 = .int .i64 x10_24 ∧ Aside0 (caliperlaw08_RoundSigns.j1 kq a0 t388 x10_24 t389 t390 t393 t394 t395 t396 t397 t398 t399 t400 t401 = some r) ∧ Aside0 (kq ≤ kj6) ∧ Aside0 (Kd.V (Kd.int .u64) 28 wc w.heap.size (fun k_ => k_ ≠ gb387 ∧ k_ ≠ gb403) (.slice Ao13 t390.length co13) t390) ∧ Aside0 (wc.heap[gb387]? = some (.cells #[.bool t389, (.slice Ao13 t390.length co13), .int .i64 t393, .int .i64 t394] 25 (0, 0))) ∧ Aside0 (wc.heap[gb403]? = some (.cells #[.int .i64 t395, .int .i64 t396, .int .i64 t397, .int .i64 t398, .int .u64 t399, .int .u64 t400, .int .u64 t401] 51 (0, 0))) ∧ Aside0 (Below w.heap.size w wc))
        case first =>
          have H := HC25.out
          clear HC25
          by_cases c26 : a1 = true
          · subst c26
            have H1 : (caliperlaw08_RoundSigns.j1 kj6 a0 t388 2 t389 t390 t393 t394 t395 t396 t397 t398 t399 t400 t401) = some r := by rw [if_pos rfl] at H; exact H
            clear H
            have H := H1
            clear H1
            have H' := Aside0.mk H
            clear H
            go_wp2
            go_meet
            case rel => exact ⟨_, (2), (by first | rfl | (simp; done) | (simp [*]; done)), H', ⟨by have := HJ6.out; first | omega | exact Nat.le_refl _⟩, ⟨by (with_reducible repeat (first | apply Kd.V_alloc | apply Kd.V_drewN | apply Kd.V_drew)); exact HO_388001.out⟩, ⟨by (with_reducible repeat (first | refine blk_drewN ?_ _ | refine blk_drew ?_ | refine blk_alloc ?_ _)); exact BK387.out⟩, ⟨by (with_reducible repeat (first | refine blk_drewN ?_ _ | refine blk_drew ?_ | refine blk_alloc ?_ _)); exact BK403.out⟩, ⟨by repeat (first | (with_reducible first | exact HB.out | apply below_alloc | apply pw_below_drewN | apply below_drew1 | refine below_set ?_ GE387.out | refine below_set ?_ GE403.out) | exact HB.out)⟩⟩
          · replace c26 := Bool.eq_false_iff.mpr c26
            subst c26
            have H1 : (caliperlaw08_RoundSigns.j1 kj6 a0 t388 1 t389 t390 t393 t394 t395 t396 t397 t398 t399 t400 t401) = some r := by rw [if_neg (show ¬ (false = true) by decide)] at H; exact H
            clear H
            have H := H1
            clear H1
            have H' := Aside0.mk H
            clear H
            go_wp2
            go_meet
            case rel => exact ⟨_, (1), (by first | rfl | (simp; done) | (simp [*]; done)), H', ⟨by have := HJ6.out; first | omega | exact Nat.le_refl _⟩, ⟨by (with_reducible repeat (first | apply Kd.V_alloc | apply Kd.V_drewN | apply Kd.V_drew)); exact HO_388001.out⟩, ⟨by (with_reducible repeat (first | refine blk_drewN ?_ _ | refine blk_drew ?_ | refine blk_alloc ?_ _)); exact BK387.out⟩, ⟨by (with_reducible repeat (first | refine blk_drewN ?_ _ | refine blk_drew ?_ | refine blk_alloc ?_ _)); exact BK403.out⟩, ⟨by repeat (first | (with_reducible first | exact HB.out | apply below_alloc | apply pw_below_drewN | apply below_drew1 | refine below_set ?_ GE387.out | refine below_set ?_ GE403.out) | exact HB.out)⟩⟩
        case rest =>
          clear HC25
          try clear c1
          try clear c2
          try clear p2
          try clear c6
          try clear c11
          try clear c12
          try clear c16
          try clear c18
          try clear c18b0
          try clear c18b1
          try clear c19
          try clear c19b0
          try clear c19b1
          try clear c20
          try clear c22
          try clear c23
          try clear c24
          try clear c26
          try clear hcz10_0
          try clear hcz10_1
          try clear hcz10_2
          try clear hcz10_3
          try clear hcz12_0
          try clear hcz12_1
          try clear hcz12_2
          try clear hcz12_3
          try clear hcz17_0
          try clear hcz17_1
          try clear hcz17_2
          try clear hcz17_3
          try clear hcz17_4
          try clear hcz17_5
          try clear hcz17_6
          try clear hcz21_0
          try clear hcz21_1
          try clear hcz21_2
          try clear hcz21_3
          try clear hcz21_4
          try clear hcz21_5
          try clear hcz21_6
          try clear hcz23_0
          try clear hcz23_1
          try clear hcz23_2
          try clear hcz23_3
          try clear hcz23_4
          try clear hcz23_5
          try clear hcz23_6
          try clear hfz10_0
          try clear hfz10_1
          try clear hfz10_2
          try clear hfz10_3
          try clear hfz12_0
          try clear hfz12_1
          try clear hfz12_2
          try clear hfz12_3
          try clear hfz17_0
          try clear hfz17_1
          try clear hfz17_2
          try clear hfz17_3
          try clear hfz17_4
          try clear hfz17_5
          try clear hfz17_6
          try clear hfz21_0
          try clear hfz21_1
          try clear hfz21_2
          try clear hfz21_3
          try clear hfz21_4
          try clear hfz21_5
          try clear hfz21_6
          try clear hfz23_0
          try clear hfz23_1
          try clear hfz23_2
          try clear hfz23_3
          try clear hfz23_4
          try clear hfz23_5
          try clear hfz23_6
          try clear p2
          obtain ⟨kq, x10_24, rfl, HA, HJ24, HO_388001, BK387, BK403, HB⟩ := hcut
          cases kq with
          | zero => exact absurd HA.out (by simp [caliperlaw08_RoundSigns.j1])
          | succ kj24 =>
            have H := HA.out
            clear HA
            simp only [caliperlaw08_RoundSigns.j1] at H
            replace H := Option.bind_eq_some_iff.mp H
            obtain ⟨⟨t405, t406⟩, A270, H⟩ := H
            replace H : ((round_Round.f kj24 a0 x10_24 (!t389) t390 t393 t394).bind fun bt407 => (if t406 = 0 then (caliperlaw08_RoundSigns.j2 kj24 t388 x10_24 t405 bt407.1 (bt407.2 != 0) t395 t396 t397 t398 t399 t400 t401) else (caliperlaw08_RoundSigns.j2 kj24 t388 x10_24 t405 bt407.1 true t395 t396 t397 t398 t399 t400 t401))) = some r := H
            have A27 := Aside0.mk A270
            clear A270
            replace H := Option.bind_eq_some_iff.mp H
            obtain ⟨⟨t407, t408⟩, A280, H⟩ := H
            replace H : (if t406 = 0 then (caliperlaw08_RoundSigns.j2 kj24 t388 x10_24 t405 t407 (t408 != 0) t395 t396 t397 t398 t399 t400 t401) else (caliperlaw08_RoundSigns.j2 kj24 t388 x10_24 t405 t407 true t395 t396 t397 t398 t399 t400 t401)) = some r := H
            have A28 := Aside0.mk A280
            clear A280
            have HC29 := Aside0.mk H
            clear H
            have hnb30 := NB387_403.out
            have hnc30 := NB403_387.out
            have hcz31_0 : wc.cell? ⟨gb387, 0, none⟩ = some (.bool t389) := (blk_cell BK387.out 0).trans rfl
            have hcz31_1 : wc.cell? ⟨gb387, 1, none⟩ = some (.slice Ao13 t390.length co13) := (blk_cell BK387.out 1).trans rfl
            have hcz31_2 : wc.cell? ⟨gb387, 2, none⟩ = some (.int .i64 t393) := (blk_cell BK387.out 2).trans rfl
            have hcz31_3 : wc.cell? ⟨gb387, 3, none⟩ = some (.int .i64 t394) := (blk_cell BK387.out 3).trans rfl
            have hfz31_0 := blk_frozen BK387.out 0
            have hfz31_1 := blk_frozen BK387.out 1
            have hfz31_2 := blk_frozen BK387.out 2
            have hfz31_3 := blk_frozen BK387.out 3
            go_upto_region 13 with (first | ((with_reducible refine gate_dst (N := 11) rfl ?_); refine box_event ?hg (N := 11) ?hd (cs := #[.bool false, .slice none 0 0, .int .i64 0, .int .i64 0]) (t := 25) ?hr ?_; (case hd => rfl); (case hg => rfl); (case hr => first | (go_simp; done) | (go_simp; rfl)); intro gb404 hg w32 hbox hb; have n0_ := Aside0.mk (Kd.V_below (Kd.V_elderB (by (with_reducible repeat (first | apply Kd.V_alloc | apply Kd.V_drewN | apply Kd.V_drew)); exact HO_388001.out) gb404 (Nat.le_of_eq hg.symm)) hb); have n1_ := Aside0.mk (blk_below (g := gb387) (o := .cells #[.bool t389, .slice Ao13 t390.length co13, .int .i64 t393, .int .i64 t394] 25 (0, 0)) (by (with_reducible repeat (first | refine blk_drewN ?_ _ | refine blk_drew ?_ | refine blk_alloc ?_ _)); exact BK387.out) hb); have n2_ := Aside0.mk (blk_below (g := gb403) (o := .cells #[.int .i64 t395, .int .i64 t396, .int .i64 t397, .int .i64 t398, .int .u64 t399, .int .u64 t400, .int .u64 t401] 51 (0, 0)) (by (with_reducible repeat (first | refine blk_drewN ?_ _ | refine blk_drew ?_ | refine blk_alloc ?_ _)); exact BK403.out) hb); have n3_ := Aside0.mk (below_step (by repeat (first | (with_reducible first | exact HB.out | apply below_alloc | apply pw_below_drewN | apply below_drew1 | refine below_set ?_ GE387.out | refine below_set ?_ GE403.out) | exact HB.out)) hb); have n4_ := Aside0.mk (hbox); have n5_ := Aside0.mk ((by rw [hg]; exact (below_size (by repeat (first | (with_reducible first | exact HB.out | apply below_alloc | apply pw_below_drewN | apply below_drew1 | refine below_set ?_ GE387.out | refine below_set ?_ GE403.out) | exact HB.out))) : w.heap.size ≤ gb404)); have n6_ := Aside0.mk ((by rw [hg]; exact (below_size (by repeat (first | (with_reducible first | exact HB.out | apply below_alloc | apply pw_below_drewN | apply below_drew1 | refine below_set ?_ GE387.out | refine below_set ?_ GE403.out) | exact HB.out))) : w.heap.size ≤ gb404)); have n7_ := Aside0.mk ((by rw [hg]; exact Nat.ne_of_lt (blk_lt (g := gb387) (o := .cells #[.bool t389, .slice Ao13 t390.length co13, .int .i64 t393, .int .i64 t394] 25 (0, 0)) (by (with_reducible repeat (first | refine blk_drewN ?_ _ | refine blk_drew ?_ | refine blk_alloc ?_ _)); exact BK387.out)) : gb387 ≠ gb404)); have n8_ := Aside0.mk ((by rw [hg]; exact Nat.ne_of_gt (blk_lt (g := gb387) (o := .cells #[.bool t389, .slice Ao13 t390.length co13, .int .i64 t393, .int .i64 t394] 25 (0, 0)) (by (with_reducible repeat (first | refine blk_drewN ?_ _ | refine blk_drew ?_ | refine blk_alloc ?_ _)); exact BK387.out)) : gb404 ≠ gb387)); have n9_ := Aside0.mk ((by rw [hg]; exact Nat.ne_of_lt (blk_lt (g := gb403) (o := .cells #[.int .i64 t395, .int .i64 t396, .int .i64 t397, .int .i64 t398, .int .u64 t399, .int .u64 t400, .int .u64 t401] 51 (0, 0)) (by (with_reducible repeat (first | refine blk_drewN ?_ _ | refine blk_drew ?_ | refine blk_alloc ?_ _)); exact BK403.out)) : gb403 ≠ gb404)); have n10_ := Aside0.mk ((by rw [hg]; exact Nat.ne_of_gt (blk_lt (g := gb403) (o := .cells #[.int .i64 t395, .int .i64 t396, .int .i64 t397, .int .i64 t398, .int .u64 t399, .int .u64 t400, .int .u64 t401] 51 (0, 0)) (by (with_reducible repeat (first | refine blk_drewN ?_ _ | refine blk_drew ?_ | refine blk_alloc ?_ _)); exact BK403.out)) : gb404 ≠ gb403)); clear HO_388001; clear BK387; clear BK403; clear HB; have HO_388001 := n0_; have BK387 := n1_; have BK403 := n2_; have HB := n3_; have BK404 := n4_; have GW404 := n5_; have GE404 := n6_; have NB387_404 := n7_; have NB404_387 := n8_; have NB403_404 := n9_; have NB404_403 := n10_; clear n0_ n1_ n2_ n3_ n4_ n5_ n6_ n7_ n8_ n9_ n10_; clear hb hbox hg; have hnb33 := NB404_387.out; have hnc33 := NB387_404.out; have hnb34 := NB404_403.out; have hnc34 := NB403_404.out; have hcz35_0 : w32.cell? ⟨gb404, 0, none⟩ = some (.bool false) := (blk_cell BK404.out 0).trans rfl; have hcz35_1 : w32.cell? ⟨gb404, 1, none⟩ = some (.slice none 0 0) := (blk_cell BK404.out 1).trans rfl; have hcz35_2 : w32.cell? ⟨gb404, 2, none⟩ = some (.int .i64 0) := (blk_cell BK404.out 2).trans rfl; have hcz35_3 : w32.cell? ⟨gb404, 3, none⟩ = some (.int .i64 0) := (blk_cell BK404.out 3).trans rfl; have hfz35_0 := blk_frozen BK404.out 0; have hfz35_1 := blk_frozen BK404.out 1; have hfz35_2 := blk_frozen BK404.out 2; have hfz35_3 := blk_frozen BK404.out 3; have hcz36_0 : w32.cell? ⟨gb387, 0, none⟩ = some (.bool t389) := (blk_cell BK387.out 0).trans rfl; have hcz36_1 : w32.cell? ⟨gb387, 1, none⟩ = some (.slice Ao13 t390.length co13) := (blk_cell BK387.out 1).trans rfl; have hcz36_2 : w32.cell? ⟨gb387, 2, none⟩ = some (.int .i64 t393) := (blk_cell BK387.out 2).trans rfl; have hcz36_3 : w32.cell? ⟨gb387, 3, none⟩ = some (.int .i64 t394) := (blk_cell BK387.out 3).trans rfl; have hfz36_0 := blk_frozen BK387.out 0; have hfz36_1 := blk_frozen BK387.out 1; have hfz36_2 := blk_frozen BK387.out 2; have hfz36_3 := blk_frozen BK387.out 3) | ((with_reducible refine gate_callee (f := 13) rfl ?_); refine goesL_ (some 47) rfl rfl Tryd.func13 (by kernel_rfl) rfl #[.int .i64 a0, .int .i64 x10_24, .agg #[.bool t389, .slice Ao13 t390.length co13, .int .i64 t393, .int .i64 t394]] rfl (by (try simp only [List.map_toArray, List.map_cons, List.map_nil]); first | done | rfl | (simp only [List.length_drop, List.length_take]; rfl)) ?_; (with_reducible refine (round_Round.calls kj24 a0 x10_24 t389 _ _ t390 t393 t394 t405 t406 _ ?side3 ?side1 ?side2 A27.out).mono ?_); (case side1 => refine (Kd.V_reads' (e := 28) (base := w.heap.size) (ok := fun k_ => ((k_ ≠ gb387 ∧ k_ ≠ gb403) ∧ k_ ≠ gb404)) (n := t390.length) (c := co13) ?_).2.2; exact (by (with_reducible repeat (first | apply Kd.V_alloc | apply Kd.V_drewN | apply Kd.V_drew)); exact (Kd.V_mono (Kd.V_far (p := ⟨gb404, 0, none⟩) (Kd.V_far (p := ⟨gb404, 3, none⟩) (Kd.V_far (p := ⟨gb404, 2, none⟩) (Kd.V_far (p := ⟨gb404, 1, none⟩) (Kd.V_far (p := ⟨gb404, 0, none⟩) (Kd.V_mono HO_388001.out (fun k_ hk => (⟨hk, hk.2⟩ : _ ∧ k_ ≠ gb404))) (fun _ hk => hk.2) (.bool t389)) (fun _ hk => hk.2) (.slice Ao13 t390.length co13)) (fun _ hk => hk.2) (.int .i64 t393)) (fun _ hk => hk.2) (.int .i64 t394)) (fun _ hk => hk.2) (.bool (!t389))) (fun _ h_ => h_.1)))); (case side2 => exact (Kd.V_reads' HO_388001.out).2.1); (case side3 => exact Glob.below HG.out (by repeat (first | (with_reducible first | exact HB.out | apply below_alloc | apply pw_below_drewN | apply below_drew1 | refine below_set ?_ GE387.out | refine below_set ?_ GE403.out | refine below_set ?_ GE404.out) | exact HB.out))); rintro e w37 ⟨rfl, hb⟩; refine ⟨_, rfl, ?_⟩; have n0_ := Aside0.mk (Kd.V_below (by (with_reducible repeat (first | apply Kd.V_alloc | apply Kd.V_drewN | apply Kd.V_drew)); exact (Kd.V_mono (Kd.V_far (p := ⟨gb404, 0, none⟩) (Kd.V_far (p := ⟨gb404, 3, none⟩) (Kd.V_far (p := ⟨gb404, 2, none⟩) (Kd.V_far (p := ⟨gb404, 1, none⟩) (Kd.V_far (p := ⟨gb404, 0, none⟩) (Kd.V_mono HO_388001.out (fun k_ hk => (⟨hk, hk.2⟩ : _ ∧ k_ ≠ gb404))) (fun _ hk => hk.2) (.bool t389)) (fun _ hk => hk.2) (.slice Ao13 t390.length co13)) (fun _ hk => hk.2) (.int .i64 t393)) (fun _ hk => hk.2) (.int .i64 t394)) (fun _ hk => hk.2) (.bool (!t389))) (fun _ h_ => h_.1))) hb); have n1_ := Aside0.mk (blk_below (g := gb387) (o := .cells #[.bool t389, .slice Ao13 t390.length co13, .int .i64 t393, .int .i64 t394] 25 (0, 0)) (by (with_reducible repeat (first | refine blk_drewN ?_ _ | refine blk_drew ?_ | refine blk_alloc ?_ _)); refine blk_far ?_ NB387_404.out _; (with_reducible repeat (first | refine blk_drewN ?_ _ | refine blk_drew ?_ | refine blk_alloc ?_ _)); refine blk_far ?_ NB387_404.out _; (with_reducible repeat (first | refine blk_drewN ?_ _ | refine blk_drew ?_ | refine blk_alloc ?_ _)); refine blk_far ?_ NB387_404.out _; (with_reducible repeat (first | refine blk_drewN ?_ _ | refine blk_drew ?_ | refine blk_alloc ?_ _)); refine blk_far ?_ NB387_404.out _; (with_reducible repeat (first | refine blk_drewN ?_ _ | refine blk_drew ?_ | refine blk_alloc ?_ _)); refine blk_far ?_ NB387_404.out _; (with_reducible repeat (first | refine blk_drewN ?_ _ | refine blk_drew ?_ | refine blk_alloc ?_ _)); exact BK387.out) hb); have n2_ := Aside0.mk (blk_below (g := gb403) (o := .cells #[.int .i64 t395, .int .i64 t396, .int .i64 t397, .int .i64 t398, .int .u64 t399, .int .u64 t400, .int .u64 t401] 51 (0, 0)) (by (with_reducible repeat (first | refine blk_drewN ?_ _ | refine blk_drew ?_ | refine blk_alloc ?_ _)); refine blk_far ?_ NB403_404.out _; (with_reducible repeat (first | refine blk_drewN ?_ _ | refine blk_drew ?_ | refine blk_alloc ?_ _)); refine blk_far ?_ NB403_404.out _; (with_reducible repeat (first | refine blk_drewN ?_ _ | refine blk_drew ?_ | refine blk_alloc ?_ _)); refine blk_far ?_ NB403_404.out _; (with_reducible repeat (first | refine blk_drewN ?_ _ | refine blk_drew ?_ | refine blk_alloc ?_ _)); refine blk_far ?_ NB403_404.out _; (with_reducible repeat (first | refine blk_drewN ?_ _ | refine blk_drew ?_ | refine blk_alloc ?_ _)); refine blk_far ?_ NB403_404.out _; (with_reducible repeat (first | refine blk_drewN ?_ _ | refine blk_drew ?_ | refine blk_alloc ?_ _)); exact BK403.out) hb); have n3_ := Aside0.mk (blk_below (g := gb404) (o := .cells #[.bool (!t389), .slice Ao13 t390.length co13, .int .i64 t393, .int .i64 t394] 25 (0, 0)) (by (with_reducible repeat (first | refine blk_drewN ?_ _ | refine blk_drew ?_ | refine blk_alloc ?_ _)); refine blk_put (cs := #[.bool t389, .slice Ao13 t390.length co13, .int .i64 t393, .int .i64 t394]) ?_ 0 _ rfl; (with_reducible repeat (first | refine blk_drewN ?_ _ | refine blk_drew ?_ | refine blk_alloc ?_ _)); refine blk_put (cs := #[.bool t389, .slice Ao13 t390.length co13, .int .i64 t393, .int .i64 0]) ?_ 3 _ rfl; (with_reducible repeat (first | refine blk_drewN ?_ _ | refine blk_drew ?_ | refine blk_alloc ?_ _)); refine blk_put (cs := #[.bool t389, .slice Ao13 t390.length co13, .int .i64 0, .int .i64 0]) ?_ 2 _ rfl; (with_reducible repeat (first | refine blk_drewN ?_ _ | refine blk_drew ?_ | refine blk_alloc ?_ _)); refine blk_put (cs := #[.bool t389, .slice none 0 0, .int .i64 0, .int .i64 0]) ?_ 1 _ rfl; (with_reducible repeat (first | refine blk_drewN ?_ _ | refine blk_drew ?_ | refine blk_alloc ?_ _)); refine blk_put (cs := #[.bool false, .slice none 0 0, .int .i64 0, .int .i64 0]) ?_ 0 _ rfl; (with_reducible repeat (first | refine blk_drewN ?_ _ | refine blk_drew ?_ | refine blk_alloc ?_ _)); exact BK404.out) hb); have n4_ := Aside0.mk (below_step (by repeat (first | (with_reducible first | exact HB.out | apply below_alloc | apply pw_below_drewN | apply below_drew1 | refine below_set ?_ GE387.out | refine below_set ?_ GE403.out | refine below_set ?_ GE404.out) | exact HB.out)) hb); clear HO_388001; clear BK387; clear BK403; clear BK404; clear HB; have HO_388001 := n0_; have BK387 := n1_; have BK403 := n2_; have BK404 := n3_; have HB := n4_; clear n0_ n1_ n2_ n3_ n4_; (try clear hb); (try clear hb2); (try clear hk); (try clear hi); have hcz38_0 : w37.cell? ⟨gb404, 0, none⟩ = some (.bool (!t389)) := (blk_cell BK404.out 0).trans rfl; have hcz38_1 : w37.cell? ⟨gb404, 1, none⟩ = some (.slice Ao13 t390.length co13) := (blk_cell BK404.out 1).trans rfl; have hcz38_2 : w37.cell? ⟨gb404, 2, none⟩ = some (.int .i64 t393) := (blk_cell BK404.out 2).trans rfl; have hcz38_3 : w37.cell? ⟨gb404, 3, none⟩ = some (.int .i64 t394) := (blk_cell BK404.out 3).trans rfl; have hfz38_0 := blk_frozen BK404.out 0; have hfz38_1 := blk_frozen BK404.out 1; have hfz38_2 := blk_frozen BK404.out 2; have hfz38_3 := blk_frozen BK404.out 3) | ((with_reducible refine gate_callee (f := 13) rfl ?_); refine goesL_ (some 54) rfl rfl Tryd.func13 (by kernel_rfl) rfl #[.int .i64 a0, .int .i64 x10_24, .agg #[.bool (!t389), .slice Ao13 t390.length co13, .int .i64 t393, .int .i64 t394]] rfl (by (try simp only [List.map_toArray, List.map_cons, List.map_nil]); first | done | rfl | (simp only [List.length_drop, List.length_take]; rfl)) ?_; (with_reducible refine (round_Round.calls kj24 a0 x10_24 (!t389) _ _ t390 t393 t394 t407 t408 _ ?side3 ?side1 ?side2 A28.out).mono ?_); (case side1 => repeat (first | exact (Kd.V_reads' HO_388001.out).2.2 | (with_reducible refine Kd.C_alloc ?_ _) | (with_reducible refine Kd.C_drewN ?_ _) | (with_reducible refine Kd.C_drew ?_))); (case side2 => exact (Kd.V_reads' HO_388001.out).2.1); (case side3 => exact Glob.below HG.out (by repeat (first | (with_reducible first | exact HB.out | apply below_alloc | apply pw_below_drewN | apply below_drew1 | refine below_set ?_ GE387.out | refine below_set ?_ GE403.out | refine below_set ?_ GE404.out) | exact HB.out))); rintro e w39 ⟨rfl, hb⟩; refine ⟨_, rfl, ?_⟩; have n0_ := Aside0.mk (Kd.V_below (by (with_reducible repeat (first | apply Kd.V_alloc | apply Kd.V_drewN | apply Kd.V_drew)); exact HO_388001.out) hb); have n1_ := Aside0.mk (blk_below (g := gb387) (o := .cells #[.bool t389, .slice Ao13 t390.length co13, .int .i64 t393, .int .i64 t394] 25 (0, 0)) (by (with_reducible repeat (first | refine blk_drewN ?_ _ | refine blk_drew ?_ | refine blk_alloc ?_ _)); exact BK387.out) hb); have n2_ := Aside0.mk (blk_below (g := gb403) (o := .cells #[.int .i64 t395, .int .i64 t396, .int .i64 t397, .int .i64 t398, .int .u64 t399, .int .u64 t400, .int .u64 t401] 51 (0, 0)) (by (with_reducible repeat (first | refine blk_drewN ?_ _ | refine blk_drew ?_ | refine blk_alloc ?_ _)); exact BK403.out) hb); have n3_ := Aside0.mk (blk_below (g := gb404) (o := .cells #[.bool (!t389), .slice Ao13 t390.length co13, .int .i64 t393, .int .i64 t394] 25 (0, 0)) (by (with_reducible repeat (first | refine blk_drewN ?_ _ | refine blk_drew ?_ | refine blk_alloc ?_ _)); exact BK404.out) hb); have n4_ := Aside0.mk (below_step (by repeat (first | (with_reducible first | exact HB.out | apply below_alloc | apply pw_below_drewN | apply below_drew1 | refine below_set ?_ GE387.out | refine below_set ?_ GE403.out | refine below_set ?_ GE404.out) | exact HB.out)) hb); clear HO_388001; clear BK387; clear BK403; clear BK404; clear HB; have HO_388001 := n0_; have BK387 := n1_; have BK403 := n2_; have BK404 := n3_; have HB := n4_; clear n0_ n1_ n2_ n3_ n4_; (try clear hb); (try clear hb2); (try clear hk); (try clear hi)))
            (try simp only [Act.put, List.setIfInBounds_toArray, List.set_cons_zero, List.set_cons_succ])
            go_cut [62] (fun v62 wc => ∃ (kq : Nat) (x62_28 : Bool), v62 = .bool x62_28 ∧ Aside0 (caliperlaw08_RoundSigns.j2 kq t388 x10_24 t405 t407 x62_28 t395 t396 t397 t398 t399 t400 t401 = some r) ∧ Aside0 (kq ≤ kj24) ∧ Aside0 (Kd.V (Kd.int .u64) 28 wc w.heap.size (fun k_ => k_ ≠ gb387 ∧ k_ ≠ gb403 ∧ k_ ≠ gb404) (.slice Ao13 t390.length co13) t390) ∧ Aside0 (Kd.V (Kd.int .u64) 28 wc w.heap.size (fun k_ => k_ ≠ gb387 ∧ k_ ≠ gb403 ∧ k_ ≠ gb404) (.slice Ao13 t390.length co13) t390) ∧ Aside0 (wc.heap[gb387]? = some (.cells #[.bool t389, (.slice Ao13 t390.length co13), .int .i64 t393, .int .i64 t394] 25 (0, 0))) ∧ Aside0 (wc.heap[gb403]? = some (.cells #[.int .i64 t395, .int .i64 t396, .int .i64 t397, .int .i64 t398, .int .u64 t399, .int .u64 t400, .int .u64 t401] 51 (0, 0))) ∧ Aside0 (wc.heap[gb404]? = some (.cells #[.bool (!t389), (.slice Ao13 t390.length co13), .int .i64 t393, .int .i64 t394] 25 (0, 0))) ∧ Aside0 (Below w.heap.size w wc))
            case first =>
              have H := HC29.out
              clear HC29
              by_cases c40 : t406 = 0
              · rw [if_pos c40] at H
                have c40b0 : (t406 == 0) = true := beq_iff_eq.mpr c40
                have c40b1 : (t406 != 0) = false := bne_eq_false_iff_eq.mpr c40
                clear c40
                (first | rw [c40b0] | (simp only [i64_w, i32_w]; rw [c40b0]) | skip)
                have H' := Aside0.mk H
                clear H
                go_wp2
                go_meet
                case rel => exact ⟨_, ((t408 != 0)), (by first | rfl | (simp; done) | (simp [*]; done)), H', ⟨by have := HJ6.out; have := HJ24.out; first | omega | exact Nat.le_refl _⟩, ⟨by (with_reducible repeat (first | apply Kd.V_alloc | apply Kd.V_drewN | apply Kd.V_drew)); exact Kd.V_mono HO_388001.out (fun _ hk => ⟨hk.1.1, ⟨hk.1.2, hk.2⟩⟩)⟩, ⟨by (with_reducible repeat (first | apply Kd.V_alloc | apply Kd.V_drewN | apply Kd.V_drew)); exact Kd.V_mono HO_388001.out (fun _ hk => ⟨hk.1.1, ⟨hk.1.2, hk.2⟩⟩)⟩, ⟨by (with_reducible repeat (first | refine blk_drewN ?_ _ | refine blk_drew ?_ | refine blk_alloc ?_ _)); exact BK387.out⟩, ⟨by (with_reducible repeat (first | refine blk_drewN ?_ _ | refine blk_drew ?_ | refine blk_alloc ?_ _)); exact BK403.out⟩, ⟨by (with_reducible repeat (first | refine blk_drewN ?_ _ | refine blk_drew ?_ | refine blk_alloc ?_ _)); exact BK404.out⟩, ⟨by repeat (first | (with_reducible first | exact HB.out | apply below_alloc | apply pw_below_drewN | apply below_drew1 | refine below_set ?_ GE387.out | refine below_set ?_ GE403.out | refine below_set ?_ GE404.out) | exact HB.out)⟩⟩
              · rw [if_neg c40] at H
                have c40b0 : (t406 == 0) = false := beq_eq_false_iff_ne.mpr c40
                have c40b1 : (t406 != 0) = true := bne_iff_ne.mpr c40
                (first | rw [c40b0] | (simp only [i64_w, i32_w]; rw [c40b0]) | skip)
                have H' := Aside0.mk H
                clear H
                go_wp2
                go_meet
                case rel => exact ⟨_, (true), (by first | rfl | (simp; done) | (simp [*]; done)), H', ⟨by have := HJ6.out; have := HJ24.out; first | omega | exact Nat.le_refl _⟩, ⟨by (with_reducible repeat (first | apply Kd.V_alloc | apply Kd.V_drewN | apply Kd.V_drew)); exact Kd.V_mono HO_388001.out (fun _ hk => ⟨hk.1.1, ⟨hk.1.2, hk.2⟩⟩)⟩, ⟨by (with_reducible repeat (first | apply Kd.V_alloc | apply Kd.V_drewN | apply Kd.V_drew)); exact Kd.V_mono HO_388001.out (fun _ hk => ⟨hk.1.1, ⟨hk.1.2, hk.2⟩⟩)⟩, ⟨by (with_reducible repeat (first | refine blk_drewN ?_ _ | refine blk_drew ?_ | refine blk_alloc ?_ _)); exact BK387.out⟩, ⟨by (with_reducible repeat (first | refine blk_drewN ?_ _ | refine blk_drew ?_ | refine blk_alloc ?_ _)); exact BK403.out⟩, ⟨by (with_reducible repeat (first | refine blk_drewN ?_ _ | refine blk_drew ?_ | refine blk_alloc ?_ _)); exact BK404.out⟩, ⟨by repeat (first | (with_reducible first | exact HB.out | apply below_alloc | apply pw_below_drewN | apply below_drew1 | refine below_set ?_ GE387.out | refine below_set ?_ GE403.out | refine below_set ?_ GE404.out) | exact HB.out)⟩⟩
            case rest =>
              clear HC29
              try clear c1
              try clear c2
              try clear p2
              try clear c3
              try clear c4
              try clear c6
              try clear c11
              try clear c12
              try clear c13
              try clear c16
              try clear c18
              try clear c18b0
              try clear c18b1
              try clear c19
              try clear c19b0
              try clear c19b1
              try clear c20
              try clear c22
              try clear c23
              try clear c24
              try clear c26
              try clear c30
              try clear c33
              try clear c34
              try clear c40
              try clear c40b0
              try clear c40b1
              try clear hcz10_0
              try clear hcz10_1
              try clear hcz10_2
              try clear hcz10_3
              try clear hcz12_0
              try clear hcz12_1
              try clear hcz12_2
              try clear hcz12_3
              try clear hcz17_0
              try clear hcz17_1
              try clear hcz17_2
              try clear hcz17_3
              try clear hcz17_4
              try clear hcz17_5
              try clear hcz17_6
              try clear hcz21_0
              try clear hcz21_1
              try clear hcz21_2
              try clear hcz21_3
              try clear hcz21_4
              try clear hcz21_5
              try clear hcz21_6
              try clear hcz23_0
              try clear hcz23_1
              try clear hcz23_2
              try clear hcz23_3
              try clear hcz23_4
              try clear hcz23_5
              try clear hcz23_6
              try clear hcz31_0
              try clear hcz31_1
              try clear hcz31_2
              try clear hcz31_3
              try clear hcz35_0
              try clear hcz35_1
              try clear hcz35_2
              try clear hcz35_3
              try clear hcz36_0
              try clear hcz36_1
              try clear hcz36_2
              try clear hcz36_3
              try clear hcz38_0
              try clear hcz38_1
              try clear hcz38_2
              try clear hcz38_3
              try clear hfz10_0
              try clear hfz10_1
              try clear hfz10_2
              try clear hfz10_3
              try clear hfz12_0
              try clear hfz12_1
              try clear hfz12_2
              try clear hfz12_3
              try clear hfz17_0
              try clear hfz17_1
              try clear hfz17_2
              try clear hfz17_3
              try clear hfz17_4
              try clear hfz17_5
              try clear hfz17_6
              try clear hfz21_0
              try clear hfz21_1
              try clear hfz21_2
              try clear hfz21_3
              try clear hfz21_4
              try clear hfz21_5
              try clear hfz21_6
              try clear hfz23_0
              try clear hfz23_1
              try clear hfz23_2
              try clear hfz23_3
              try clear hfz23_4
              try clear hfz23_5
              try clear hfz23_6
              try clear hfz31_0
              try clear hfz31_1
              try clear hfz31_2
              try clear hfz31_3
              try clear hfz35_0
              try clear hfz35_1
              try clear hfz35_2
              try clear hfz35_3
              try clear hfz36_0
              try clear hfz36_1
              try clear hfz36_2
              try clear hfz36_3
              try clear hfz38_0
              try clear hfz38_1
              try clear hfz38_2
              try clear hfz38_3
              try clear p2
              obtain ⟨kq, x62_28, rfl, HA, HJ28, HO_388001, HO_405001, BK387, BK403, BK404, HB⟩ := hcut
              cases kq with
              | zero => exact absurd HA.out (by simp [caliperlaw08_RoundSigns.j2])
              | succ kj28 =>
                have H := HA.out
                clear HA
                simp only [caliperlaw08_RoundSigns.j2] at H
                by_cases c41 : x62_28 = true
                · subst c41
                  have H1 : (some false) = some r := by rw [if_pos rfl] at H; exact H
                  clear H
                  have H := H1
                  clear H1
                  obtain rfl := Option.some.inj H
                  go_wp2
                  go_ret
                  exact ⟨by first | rfl | (simp [errW_none, errW_some] <;> rfl) | (simp [*, errW_none, errW_some] <;> rfl), by repeat (first | (with_reducible first | exact HB.out | apply below_alloc | apply pw_below_drewN | apply below_drew1 | refine below_set ?_ GE387.out | refine below_set ?_ GE403.out | refine below_set ?_ GE404.out) | exact HB.out)⟩
                · replace c41 := Bool.eq_false_iff.mpr c41
                  subst c41
                  have H1 : (if t401 = 0 then (caliperlaw08_RoundSigns.j3 kj28 t388 x10_24 t405 t407 false t395 t396 t397 t398 t399 t400 t401) else (caliperlaw08_RoundSigns.j3 kj28 t388 x10_24 t405 t407 (t405 == t401) t395 t396 t397 t398 t399 t400 t401)) = some r := by rw [if_neg (show ¬ (false = true) by decide)] at H; exact H
                  clear H
                  have H := H1
                  clear H1
                  have HC42 := Aside0.mk H
                  clear H
                  go_upto_region 15 with (fail)
                  go_cut [71] (fun v71 wc => ∃ (kq : Nat) (x71_41 : Bool), v71 = .bool x71_41 ∧ Aside0 (caliperlaw08_RoundSigns.j3 kq t388 x10_24 t405 t407 x71_41 t395 t396 t397 t398 t399 t400 t401 = some r) ∧ Aside0 (kq ≤ kj28) ∧ Aside0 (Kd.V (Kd.int .u64) 28 wc w.heap.size (fun k_ => k_ ≠ gb387 ∧ k_ ≠ gb403 ∧ k_ ≠ gb404) (.slice Ao13 t390.length co13) t390) ∧ Aside0 (Kd.V (Kd.int .u64) 28 wc w.heap.size (fun k_ => k_ ≠ gb387 ∧ k_ ≠ gb403 ∧ k_ ≠ gb404) (.slice Ao13 t390.length co13) t390) ∧ Aside0 (wc.heap[gb387]? = some (.cells #[.bool t389, (.slice Ao13 t390.length co13), .int .i64 t393, .int .i64 t394] 25 (0, 0))) ∧ Aside0 (wc.heap[gb403]? = some (.cells #[.int .i64 t395, .int .i64 t396, .int .i64 t397, .int .i64 t398, .int .u64 t399, .int .u64 t400, .int .u64 t401] 51 (0, 0))) ∧ Aside0 (wc.heap[gb404]? = some (.cells #[.bool (!t389), (.slice Ao13 t390.length co13), .int .i64 t393, .int .i64 t394] 25 (0, 0))) ∧ Aside0 (Below w.heap.size w wc))
                  case first =>
                    have H := HC42.out
                    clear HC42
                    by_cases c43 : t401 = 0
                    · rw [if_pos c43] at H
                      have c43b0 : (t401 == 0) = true := beq_iff_eq.mpr c43
                      have c43b1 : (t401 != 0) = false := bne_eq_false_iff_eq.mpr c43
                      clear c43
                      (first | rw [c43b0] | (simp only [i64_w, i32_w]; rw [c43b0]) | skip)
                      have H' := Aside0.mk H
                      clear H
                      have hnb44 := NB403_387.out
                      have hnc44 := NB387_403.out
                      have hnb45 := NB403_404.out
                      have hnc45 := NB404_403.out
                      have hcz46_0 : wc.cell? ⟨gb403, 0, none⟩ = some (.int .i64 t395) := (blk_cell BK403.out 0).trans rfl
                      have hcz46_1 : wc.cell? ⟨gb403, 1, none⟩ = some (.int .i64 t396) := (blk_cell BK403.out 1).trans rfl
                      have hcz46_2 : wc.cell? ⟨gb403, 2, none⟩ = some (.int .i64 t397) := (blk_cell BK403.out 2).trans rfl
                      have hcz46_3 : wc.cell? ⟨gb403, 3, none⟩ = some (.int .i64 t398) := (blk_cell BK403.out 3).trans rfl
                      have hcz46_4 : wc.cell? ⟨gb403, 4, none⟩ = some (.int .u64 t399) := (blk_cell BK403.out 4).trans rfl
                      have hcz46_5 : wc.cell? ⟨gb403, 5, none⟩ = some (.int .u64 t400) := (blk_cell BK403.out 5).trans rfl
                      have hcz46_6 : wc.cell? ⟨gb403, 6, none⟩ = some (.int .u64 t401) := (blk_cell BK403.out 6).trans rfl
                      have hfz46_0 := blk_frozen BK403.out 0
                      have hfz46_1 := blk_frozen BK403.out 1
                      have hfz46_2 := blk_frozen BK403.out 2
                      have hfz46_3 := blk_frozen BK403.out 3
                      have hfz46_4 := blk_frozen BK403.out 4
                      have hfz46_5 := blk_frozen BK403.out 5
                      have hfz46_6 := blk_frozen BK403.out 6
                      go_wp2
                      go_meet
                      case rel => exact ⟨_, (false), (by first | rfl | (simp; done) | (simp [*]; done)), H', ⟨by have := HJ6.out; have := HJ24.out; have := HJ28.out; first | omega | exact Nat.le_refl _⟩, ⟨by (with_reducible repeat (first | apply Kd.V_alloc | apply Kd.V_drewN | apply Kd.V_drew)); exact HO_388001.out⟩, ⟨by (with_reducible repeat (first | apply Kd.V_alloc | apply Kd.V_drewN | apply Kd.V_drew)); exact HO_405001.out⟩, ⟨by (with_reducible repeat (first | refine blk_drewN ?_ _ | refine blk_drew ?_ | refine blk_alloc ?_ _)); exact BK387.out⟩, ⟨by (with_reducible repeat (first | refine blk_drewN ?_ _ | refine blk_drew ?_ | refine blk_alloc ?_ _)); exact BK403.out⟩, ⟨by (with_reducible repeat (first | refine blk_drewN ?_ _ | refine blk_drew ?_ | refine blk_alloc ?_ _)); exact BK404.out⟩, ⟨by repeat (first | (with_reducible first | exact HB.out | apply below_alloc | apply pw_below_drewN | apply below_drew1 | refine below_set ?_ GE387.out | refine below_set ?_ GE403.out | refine below_set ?_ GE404.out) | exact HB.out)⟩⟩
                    · rw [if_neg c43] at H
                      have c43b0 : (t401 == 0) = false := beq_eq_false_iff_ne.mpr c43
                      have c43b1 : (t401 != 0) = true := bne_iff_ne.mpr c43
                      (first | rw [c43b0] | (simp only [i64_w, i32_w]; rw [c43b0]) | skip)
                      have H' := Aside0.mk H
                      clear H
                      have hnb47 := NB403_387.out
                      have hnc47 := NB387_403.out
                      have hnb48 := NB403_404.out
                      have hnc48 := NB404_403.out
                      have hcz49_0 : wc.cell? ⟨gb403, 0, none⟩ = some (.int .i64 t395) := (blk_cell BK403.out 0).trans rfl
                      have hcz49_1 : wc.cell? ⟨gb403, 1, none⟩ = some (.int .i64 t396) := (blk_cell BK403.out 1).trans rfl
                      have hcz49_2 : wc.cell? ⟨gb403, 2, none⟩ = some (.int .i64 t397) := (blk_cell BK403.out 2).trans rfl
                      have hcz49_3 : wc.cell? ⟨gb403, 3, none⟩ = some (.int .i64 t398) := (blk_cell BK403.out 3).trans rfl
                      have hcz49_4 : wc.cell? ⟨gb403, 4, none⟩ = some (.int .u64 t399) := (blk_cell BK403.out 4).trans rfl
                      have hcz49_5 : wc.cell? ⟨gb403, 5, none⟩ = some (.int .u64 t400) := (blk_cell BK403.out 5).trans rfl
                      have hcz49_6 : wc.cell? ⟨gb403, 6, none⟩ = some (.int .u64 t401) := (blk_cell BK403.out 6).trans rfl
                      have hfz49_0 := blk_frozen BK403.out 0
                      have hfz49_1 := blk_frozen BK403.out 1
                      have hfz49_2 := blk_frozen BK403.out 2
                      have hfz49_3 := blk_frozen BK403.out 3
                      have hfz49_4 := blk_frozen BK403.out 4
                      have hfz49_5 := blk_frozen BK403.out 5
                      have hfz49_6 := blk_frozen BK403.out 6
                      go_wp2
                      go_meet
                      case rel => exact ⟨_, ((t405 == t401)), (by first | rfl | (simp; done) | (simp [*]; done)), H', ⟨by have := HJ6.out; have := HJ24.out; have := HJ28.out; first | omega | exact Nat.le_refl _⟩, ⟨by (with_reducible repeat (first | apply Kd.V_alloc | apply Kd.V_drewN | apply Kd.V_drew)); exact HO_388001.out⟩, ⟨by (with_reducible repeat (first | apply Kd.V_alloc | apply Kd.V_drewN | apply Kd.V_drew)); exact HO_405001.out⟩, ⟨by (with_reducible repeat (first | refine blk_drewN ?_ _ | refine blk_drew ?_ | refine blk_alloc ?_ _)); exact BK387.out⟩, ⟨by (with_reducible repeat (first | refine blk_drewN ?_ _ | refine blk_drew ?_ | refine blk_alloc ?_ _)); exact BK403.out⟩, ⟨by (with_reducible repeat (first | refine blk_drewN ?_ _ | refine blk_drew ?_ | refine blk_alloc ?_ _)); exact BK404.out⟩, ⟨by repeat (first | (with_reducible first | exact HB.out | apply below_alloc | apply pw_below_drewN | apply below_drew1 | refine below_set ?_ GE387.out | refine below_set ?_ GE403.out | refine below_set ?_ GE404.out) | exact HB.out)⟩⟩
                  case rest =>
                    clear HC42
                    try clear c1
                    try clear c2
                    try clear p2
                    try clear c3
                    try clear c4
                    try clear c6
                    try clear c11
                    try clear c12
                    try clear c13
                    try clear c16
                    try clear c18
                    try clear c18b0
                    try clear c18b1
                    try clear c19
                    try clear c19b0
                    try clear c19b1
                    try clear c20
                    try clear c22
                    try clear c23
                    try clear c24
                    try clear c26
                    try clear c30
                    try clear c33
                    try clear c34
                    try clear c40
                    try clear c40b0
                    try clear c40b1
                    try clear c41
                    try clear c43
                    try clear c43b0
                    try clear c43b1
                    try clear c44
                    try clear c45
                    try clear c47
                    try clear c48
                    try clear hcz10_0
                    try clear hcz10_1
                    try clear hcz10_2
                    try clear hcz10_3
                    try clear hcz12_0
                    try clear hcz12_1
                    try clear hcz12_2
                    try clear hcz12_3
                    try clear hcz17_0
                    try clear hcz17_1
                    try clear hcz17_2
                    try clear hcz17_3
                    try clear hcz17_4
                    try clear hcz17_5
                    try clear hcz17_6
                    try clear hcz21_0
                    try clear hcz21_1
                    try clear hcz21_2
                    try clear hcz21_3
                    try clear hcz21_4
                    try clear hcz21_5
                    try clear hcz21_6
                    try clear hcz23_0
                    try clear hcz23_1
                    try clear hcz23_2
                    try clear hcz23_3
                    try clear hcz23_4
                    try clear hcz23_5
                    try clear hcz23_6
                    try clear hcz31_0
                    try clear hcz31_1
                    try clear hcz31_2
                    try clear hcz31_3
                    try clear hcz35_0
                    try clear hcz35_1
                    try clear hcz35_2
                    try clear hcz35_3
                    try clear hcz36_0
                    try clear hcz36_1
                    try clear hcz36_2
                    try clear hcz36_3
                    try clear hcz38_0
                    try clear hcz38_1
                    try clear hcz38_2
                    try clear hcz38_3
                    try clear hcz46_0
                    try clear hcz46_1
                    try clear hcz46_2
                    try clear hcz46_3
                    try clear hcz46_4
                    try clear hcz46_5
                    try clear hcz46_6
                    try clear hcz49_0
                    try clear hcz49_1
                    try clear hcz49_2
                    try clear hcz49_3
                    try clear hcz49_4
                    try clear hcz49_5
                    try clear hcz49_6
                    try clear hfz10_0
                    try clear hfz10_1
                    try clear hfz10_2
                    try clear hfz10_3
                    try clear hfz12_0
                    try clear hfz12_1
                    try clear hfz12_2
                    try clear hfz12_3
                    try clear hfz17_0
                    try clear hfz17_1
                    try clear hfz17_2
                    try clear hfz17_3
                    try clear hfz17_4
                    try clear hfz17_5
                    try clear hfz17_6
                    try clear hfz21_0
                    try clear hfz21_1
                    try clear hfz21_2
                    try clear hfz21_3
                    try clear hfz21_4
                    try clear hfz21_5
                    try clear hfz21_6
                    try clear hfz23_0
                    try clear hfz23_1
                    try clear hfz23_2
                    try clear hfz23_3
                    try clear hfz23_4
                    try clear hfz23_5
                    try clear hfz23_6
                    try clear hfz31_0
                    try clear hfz31_1
                    try clear hfz31_2
                    try clear hfz31_3
                    try clear hfz35_0
                    try clear hfz35_1
                    try clear hfz35_2
                    try clear hfz35_3
                    try clear hfz36_0
                    try clear hfz36_1
                    try clear hfz36_2
                    try clear hfz36_3
                    try clear hfz38_0
                    try clear hfz38_1
                    try clear hfz38_2
                    try clear hfz38_3
                    try clear hfz46_0
                    try clear hfz46_1
                    try clear hfz46_2
                    try clear hfz46_3
                    try clear hfz46_4
                    try clear hfz46_5
                    try clear hfz46_6
                    try clear hfz49_0
                    try clear hfz49_1
                    try clear hfz49_2
                    try clear hfz49_3
                    try clear hfz49_4
                    try clear hfz49_5
                    try clear hfz49_6
                    try clear p2
                    obtain ⟨kq, x71_41, rfl, HA, HJ41, HO_388001, HO_405001, BK387, BK403, BK404, HB⟩ := hcut
                    cases kq with
                    | zero => exact absurd HA.out (by simp [caliperlaw08_RoundSigns.j3])
                    | succ kj41 =>
                      have H := HA.out
                      clear HA
                      simp only [caliperlaw08_RoundSigns.j3] at H
                      by_cases c50 : x71_41 = true
                      · subst c50
                        have H1 : (if t388 = true then (if t407 = t405 then (if t400 = 0 then (some (x10_24 == 2)) else (some false)) else (some false)) else (some false)) = some r := by rw [if_pos rfl] at H; exact H
                        clear H
                        have H := H1
                        clear H1
                        by_cases c51 : t388 = true
                        · subst c51
                          have H1 : (if t407 = t405 then (if t400 = 0 then (some (x10_24 == 2)) else (some false)) else (some false)) = some r := by rw [if_pos rfl] at H; exact H
                          clear H
                          have H := H1
                          clear H1
                          by_cases c52 : t407 = t405
                          · rw [if_pos c52] at H
                            have c52b0 : (t407 == t405) = true := beq_iff_eq.mpr c52
                            have c52b1 : (t407 != t405) = false := bne_eq_false_iff_eq.mpr c52
                            clear c52
                            by_cases c53 : t400 = 0
                            · rw [if_pos c53] at H
                              have c53b0 : (t400 == 0) = true := beq_iff_eq.mpr c53
                              have c53b1 : (t400 != 0) = false := bne_eq_false_iff_eq.mpr c53
                              clear c53
                              obtain rfl := Option.some.inj H
                              have hnb54 := NB403_387.out
                              have hnc54 := NB387_403.out
                              have hnb55 := NB403_404.out
                              have hnc55 := NB404_403.out
                              have hcz56_0 : wc.cell? ⟨gb403, 0, none⟩ = some (.int .i64 t395) := (blk_cell BK403.out 0).trans rfl
                              have hcz56_1 : wc.cell? ⟨gb403, 1, none⟩ = some (.int .i64 t396) := (blk_cell BK403.out 1).trans rfl
                              have hcz56_2 : wc.cell? ⟨gb403, 2, none⟩ = some (.int .i64 t397) := (blk_cell BK403.out 2).trans rfl
                              have hcz56_3 : wc.cell? ⟨gb403, 3, none⟩ = some (.int .i64 t398) := (blk_cell BK403.out 3).trans rfl
                              have hcz56_4 : wc.cell? ⟨gb403, 4, none⟩ = some (.int .u64 t399) := (blk_cell BK403.out 4).trans rfl
                              have hcz56_5 : wc.cell? ⟨gb403, 5, none⟩ = some (.int .u64 t400) := (blk_cell BK403.out 5).trans rfl
                              have hcz56_6 : wc.cell? ⟨gb403, 6, none⟩ = some (.int .u64 t401) := (blk_cell BK403.out 6).trans rfl
                              have hfz56_0 := blk_frozen BK403.out 0
                              have hfz56_1 := blk_frozen BK403.out 1
                              have hfz56_2 := blk_frozen BK403.out 2
                              have hfz56_3 := blk_frozen BK403.out 3
                              have hfz56_4 := blk_frozen BK403.out 4
                              have hfz56_5 := blk_frozen BK403.out 5
                              have hfz56_6 := blk_frozen BK403.out 6
                              go_wp2
                              go_ret
                              exact ⟨by first | rfl | (simp [errW_none, errW_some] <;> rfl) | (simp [*, errW_none, errW_some] <;> rfl), by repeat (first | (with_reducible first | exact HB.out | apply below_alloc | apply pw_below_drewN | apply below_drew1 | refine below_set ?_ GE387.out | refine below_set ?_ GE403.out | refine below_set ?_ GE404.out) | exact HB.out)⟩
                            · rw [if_neg c53] at H
                              have c53b0 : (t400 == 0) = false := beq_eq_false_iff_ne.mpr c53
                              have c53b1 : (t400 != 0) = true := bne_iff_ne.mpr c53
                              obtain rfl := Option.some.inj H
                              have hnb57 := NB403_387.out
                              have hnc57 := NB387_403.out
                              have hnb58 := NB403_404.out
                              have hnc58 := NB404_403.out
                              have hcz59_0 : wc.cell? ⟨gb403, 0, none⟩ = some (.int .i64 t395) := (blk_cell BK403.out 0).trans rfl
                              have hcz59_1 : wc.cell? ⟨gb403, 1, none⟩ = some (.int .i64 t396) := (blk_cell BK403.out 1).trans rfl
                              have hcz59_2 : wc.cell? ⟨gb403, 2, none⟩ = some (.int .i64 t397) := (blk_cell BK403.out 2).trans rfl
                              have hcz59_3 : wc.cell? ⟨gb403, 3, none⟩ = some (.int .i64 t398) := (blk_cell BK403.out 3).trans rfl
                              have hcz59_4 : wc.cell? ⟨gb403, 4, none⟩ = some (.int .u64 t399) := (blk_cell BK403.out 4).trans rfl
                              have hcz59_5 : wc.cell? ⟨gb403, 5, none⟩ = some (.int .u64 t400) := (blk_cell BK403.out 5).trans rfl
                              have hcz59_6 : wc.cell? ⟨gb403, 6, none⟩ = some (.int .u64 t401) := (blk_cell BK403.out 6).trans rfl
                              have hfz59_0 := blk_frozen BK403.out 0
                              have hfz59_1 := blk_frozen BK403.out 1
                              have hfz59_2 := blk_frozen BK403.out 2
                              have hfz59_3 := blk_frozen BK403.out 3
                              have hfz59_4 := blk_frozen BK403.out 4
                              have hfz59_5 := blk_frozen BK403.out 5
                              have hfz59_6 := blk_frozen BK403.out 6
                              go_wp2
                              go_ret
                              exact ⟨by first | rfl | (simp [errW_none, errW_some] <;> rfl) | (simp [*, errW_none, errW_some] <;> rfl), by repeat (first | (with_reducible first | exact HB.out | apply below_alloc | apply pw_below_drewN | apply below_drew1 | refine below_set ?_ GE387.out | refine below_set ?_ GE403.out | refine below_set ?_ GE404.out) | exact HB.out)⟩
                          · rw [if_neg c52] at H
                            have c52b0 : (t407 == t405) = false := beq_eq_false_iff_ne.mpr c52
                            have c52b1 : (t407 != t405) = true := bne_iff_ne.mpr c52
                            obtain rfl := Option.some.inj H
                            go_wp2
                            go_ret
                            exact ⟨by first | rfl | (simp [errW_none, errW_some] <;> rfl) | (simp [*, errW_none, errW_some] <;> rfl), by repeat (first | (with_reducible first | exact HB.out | apply below_alloc | apply pw_below_drewN | apply below_drew1 | refine below_set ?_ GE387.out | refine below_set ?_ GE403.out | refine below_set ?_ GE404.out) | exact HB.out)⟩
                        · replace c51 := Bool.eq_false_iff.mpr c51
                          subst c51
                          have H1 : (some false) = some r := by rw [if_neg (show ¬ (false = true) by decide)] at H; exact H
                          clear H
                          have H := H1
                          clear H1
                          obtain rfl := Option.some.inj H
                          go_wp2
                          go_ret
                          exact ⟨by first | rfl | (simp [errW_none, errW_some] <;> rfl) | (simp [*, errW_none, errW_some] <;> rfl), by repeat (first | (with_reducible first | exact HB.out | apply below_alloc | apply pw_below_drewN | apply below_drew1 | refine below_set ?_ GE387.out | refine below_set ?_ GE403.out | refine below_set ?_ GE404.out) | exact HB.out)⟩
                      · replace c50 := Bool.eq_false_iff.mpr c50
                        subst c50
                        have H1 : (if t395 = 2 then (if t388 = true then ((forms_Form_Sign.f t395 t396 t397 t398 t399 t400 t401).bind fun t409 => (some (t407 == (Go.bits .xor .u64 t405 t409)))) else (some false)) else (if t388 = true then ((forms_Form_Mask.f t395 t396 t397 t398 t399 t400 t401).bind fun t410 => (some (t407 == (Go.bits .and .u64 (IntKind.u64.wrap (-t405)) t410)))) else (some false))) = some r := by rw [if_neg (show ¬ (false = true) by decide)] at H; exact H
                        clear H
                        have H := H1
                        clear H1
                        by_cases c60 : t395 = 2
                        · rw [if_pos c60] at H
                          have c60b0 : (t395 == 2) = true := beq_iff_eq.mpr c60
                          have c60b1 : (t395 != 2) = false := bne_eq_false_iff_eq.mpr c60
                          clear c60
                          by_cases c61 : t388 = true
                          · subst c61
                            have H1 : ((forms_Form_Sign.f t395 t396 t397 t398 t399 t400 t401).bind fun t409 => (some (t407 == (Go.bits .xor .u64 t405 t409)))) = some r := by rw [if_pos rfl] at H; exact H
                            clear H
                            have H := H1
                            clear H1
                            replace H := Option.bind_eq_some_iff.mp H
                            obtain ⟨t409, A620, H⟩ := H
                            replace H : (some (t407 == (Go.bits .xor .u64 t405 t409))) = some r := H
                            have A62 := Aside0.mk A620
                            clear A620
                            obtain rfl := Option.some.inj H
                            have hnb63 := NB403_387.out
                            have hnc63 := NB387_403.out
                            have hnb64 := NB403_404.out
                            have hnc64 := NB404_403.out
                            have hcz65_0 : wc.cell? ⟨gb403, 0, none⟩ = some (.int .i64 t395) := (blk_cell BK403.out 0).trans rfl
                            have hcz65_1 : wc.cell? ⟨gb403, 1, none⟩ = some (.int .i64 t396) := (blk_cell BK403.out 1).trans rfl
                            have hcz65_2 : wc.cell? ⟨gb403, 2, none⟩ = some (.int .i64 t397) := (blk_cell BK403.out 2).trans rfl
                            have hcz65_3 : wc.cell? ⟨gb403, 3, none⟩ = some (.int .i64 t398) := (blk_cell BK403.out 3).trans rfl
                            have hcz65_4 : wc.cell? ⟨gb403, 4, none⟩ = some (.int .u64 t399) := (blk_cell BK403.out 4).trans rfl
                            have hcz65_5 : wc.cell? ⟨gb403, 5, none⟩ = some (.int .u64 t400) := (blk_cell BK403.out 5).trans rfl
                            have hcz65_6 : wc.cell? ⟨gb403, 6, none⟩ = some (.int .u64 t401) := (blk_cell BK403.out 6).trans rfl
                            have hfz65_0 := blk_frozen BK403.out 0
                            have hfz65_1 := blk_frozen BK403.out 1
                            have hfz65_2 := blk_frozen BK403.out 2
                            have hfz65_3 := blk_frozen BK403.out 3
                            have hfz65_4 := blk_frozen BK403.out 4
                            have hfz65_5 := blk_frozen BK403.out 5
                            have hfz65_6 := blk_frozen BK403.out 6
                            go_wp2_with (first | (go_at_call 24; (with_reducible refine (forms_Form_Sign.calls t395 t396 t397 t398 t399 t400 t401 t409 _ A62.out).mono ?_); rintro e w66 ⟨rfl, hb⟩; have n0_ := Aside0.mk (Kd.V_below (by (with_reducible repeat (first | apply Kd.V_alloc | apply Kd.V_drewN | apply Kd.V_drew)); exact HO_388001.out) hb); have n1_ := Aside0.mk (Kd.V_below (by (with_reducible repeat (first | apply Kd.V_alloc | apply Kd.V_drewN | apply Kd.V_drew)); exact HO_405001.out) hb); have n2_ := Aside0.mk (blk_below (g := gb387) (o := .cells #[.bool t389, .slice Ao13 t390.length co13, .int .i64 t393, .int .i64 t394] 25 (0, 0)) (by (with_reducible repeat (first | refine blk_drewN ?_ _ | refine blk_drew ?_ | refine blk_alloc ?_ _)); exact BK387.out) hb); have n3_ := Aside0.mk (blk_below (g := gb403) (o := .cells #[.int .i64 t395, .int .i64 t396, .int .i64 t397, .int .i64 t398, .int .u64 t399, .int .u64 t400, .int .u64 t401] 51 (0, 0)) (by (with_reducible repeat (first | refine blk_drewN ?_ _ | refine blk_drew ?_ | refine blk_alloc ?_ _)); exact BK403.out) hb); have n4_ := Aside0.mk (blk_below (g := gb404) (o := .cells #[.bool (!t389), .slice Ao13 t390.length co13, .int .i64 t393, .int .i64 t394] 25 (0, 0)) (by (with_reducible repeat (first | refine blk_drewN ?_ _ | refine blk_drew ?_ | refine blk_alloc ?_ _)); exact BK404.out) hb); have n5_ := Aside0.mk (below_step (by repeat (first | (with_reducible first | exact HB.out | apply below_alloc | apply pw_below_drewN | apply below_drew1 | refine below_set ?_ GE387.out | refine below_set ?_ GE403.out | refine below_set ?_ GE404.out) | exact HB.out)) hb); clear HO_388001; clear HO_405001; clear BK387; clear BK403; clear BK404; clear HB; have HO_388001 := n0_; have HO_405001 := n1_; have BK387 := n2_; have BK403 := n3_; have BK404 := n4_; have HB := n5_; clear n0_ n1_ n2_ n3_ n4_ n5_; (try clear hb); (try clear hb2); (try clear hk); (try clear hi)))
                            go_ret
                            exact ⟨by first | rfl | (simp [errW_none, errW_some] <;> rfl) | (simp [*, errW_none, errW_some] <;> rfl), by repeat (first | (with_reducible first | exact HB.out | apply below_alloc | apply pw_below_drewN | apply below_drew1 | refine below_set ?_ GE387.out | refine below_set ?_ GE403.out | refine below_set ?_ GE404.out) | exact HB.out)⟩
                          · replace c61 := Bool.eq_false_iff.mpr c61
                            subst c61
                            have H1 : (some false) = some r := by rw [if_neg (show ¬ (false = true) by decide)] at H; exact H
                            clear H
                            have H := H1
                            clear H1
                            obtain rfl := Option.some.inj H
                            have hnb67 := NB403_387.out
                            have hnc67 := NB387_403.out
                            have hnb68 := NB403_404.out
                            have hnc68 := NB404_403.out
                            have hcz69_0 : wc.cell? ⟨gb403, 0, none⟩ = some (.int .i64 t395) := (blk_cell BK403.out 0).trans rfl
                            have hcz69_1 : wc.cell? ⟨gb403, 1, none⟩ = some (.int .i64 t396) := (blk_cell BK403.out 1).trans rfl
                            have hcz69_2 : wc.cell? ⟨gb403, 2, none⟩ = some (.int .i64 t397) := (blk_cell BK403.out 2).trans rfl
                            have hcz69_3 : wc.cell? ⟨gb403, 3, none⟩ = some (.int .i64 t398) := (blk_cell BK403.out 3).trans rfl
                            have hcz69_4 : wc.cell? ⟨gb403, 4, none⟩ = some (.int .u64 t399) := (blk_cell BK403.out 4).trans rfl
                            have hcz69_5 : wc.cell? ⟨gb403, 5, none⟩ = some (.int .u64 t400) := (blk_cell BK403.out 5).trans rfl
                            have hcz69_6 : wc.cell? ⟨gb403, 6, none⟩ = some (.int .u64 t401) := (blk_cell BK403.out 6).trans rfl
                            have hfz69_0 := blk_frozen BK403.out 0
                            have hfz69_1 := blk_frozen BK403.out 1
                            have hfz69_2 := blk_frozen BK403.out 2
                            have hfz69_3 := blk_frozen BK403.out 3
                            have hfz69_4 := blk_frozen BK403.out 4
                            have hfz69_5 := blk_frozen BK403.out 5
                            have hfz69_6 := blk_frozen BK403.out 6
                            go_wp2
                            go_ret
                            exact ⟨by first | rfl | (simp [errW_none, errW_some] <;> rfl) | (simp [*, errW_none, errW_some] <;> rfl), by repeat (first | (with_reducible first | exact HB.out | apply below_alloc | apply pw_below_drewN | apply below_drew1 | refine below_set ?_ GE387.out | refine below_set ?_ GE403.out | refine below_set ?_ GE404.out) | exact HB.out)⟩
                        · rw [if_neg c60] at H
                          have c60b0 : (t395 == 2) = false := beq_eq_false_iff_ne.mpr c60
                          have c60b1 : (t395 != 2) = true := bne_iff_ne.mpr c60
                          by_cases c70 : t388 = true
                          · subst c70
                            have H1 : ((forms_Form_Mask.f t395 t396 t397 t398 t399 t400 t401).bind fun t410 => (some (t407 == (Go.bits .and .u64 (IntKind.u64.wrap (-t405)) t410)))) = some r := by rw [if_pos rfl] at H; exact H
                            clear H
                            have H := H1
                            clear H1
                            replace H := Option.bind_eq_some_iff.mp H
                            obtain ⟨t410, A710, H⟩ := H
                            replace H : (some (t407 == (Go.bits .and .u64 (IntKind.u64.wrap (-t405)) t410))) = some r := H
                            have A71 := Aside0.mk A710
                            clear A710
                            obtain rfl := Option.some.inj H
                            have hnb72 := NB403_387.out
                            have hnc72 := NB387_403.out
                            have hnb73 := NB403_404.out
                            have hnc73 := NB404_403.out
                            have hcz74_0 : wc.cell? ⟨gb403, 0, none⟩ = some (.int .i64 t395) := (blk_cell BK403.out 0).trans rfl
                            have hcz74_1 : wc.cell? ⟨gb403, 1, none⟩ = some (.int .i64 t396) := (blk_cell BK403.out 1).trans rfl
                            have hcz74_2 : wc.cell? ⟨gb403, 2, none⟩ = some (.int .i64 t397) := (blk_cell BK403.out 2).trans rfl
                            have hcz74_3 : wc.cell? ⟨gb403, 3, none⟩ = some (.int .i64 t398) := (blk_cell BK403.out 3).trans rfl
                            have hcz74_4 : wc.cell? ⟨gb403, 4, none⟩ = some (.int .u64 t399) := (blk_cell BK403.out 4).trans rfl
                            have hcz74_5 : wc.cell? ⟨gb403, 5, none⟩ = some (.int .u64 t400) := (blk_cell BK403.out 5).trans rfl
                            have hcz74_6 : wc.cell? ⟨gb403, 6, none⟩ = some (.int .u64 t401) := (blk_cell BK403.out 6).trans rfl
                            have hfz74_0 := blk_frozen BK403.out 0
                            have hfz74_1 := blk_frozen BK403.out 1
                            have hfz74_2 := blk_frozen BK403.out 2
                            have hfz74_3 := blk_frozen BK403.out 3
                            have hfz74_4 := blk_frozen BK403.out 4
                            have hfz74_5 := blk_frozen BK403.out 5
                            have hfz74_6 := blk_frozen BK403.out 6
                            go_wp2_with (first | (go_at_call 25; (with_reducible refine (forms_Form_Mask.calls t395 t396 t397 t398 t399 t400 t401 t410 _ A71.out).mono ?_); rintro e w75 ⟨rfl, hb⟩; have n0_ := Aside0.mk (Kd.V_below (by (with_reducible repeat (first | apply Kd.V_alloc | apply Kd.V_drewN | apply Kd.V_drew)); exact HO_388001.out) hb); have n1_ := Aside0.mk (Kd.V_below (by (with_reducible repeat (first | apply Kd.V_alloc | apply Kd.V_drewN | apply Kd.V_drew)); exact HO_405001.out) hb); have n2_ := Aside0.mk (blk_below (g := gb387) (o := .cells #[.bool t389, .slice Ao13 t390.length co13, .int .i64 t393, .int .i64 t394] 25 (0, 0)) (by (with_reducible repeat (first | refine blk_drewN ?_ _ | refine blk_drew ?_ | refine blk_alloc ?_ _)); exact BK387.out) hb); have n3_ := Aside0.mk (blk_below (g := gb403) (o := .cells #[.int .i64 t395, .int .i64 t396, .int .i64 t397, .int .i64 t398, .int .u64 t399, .int .u64 t400, .int .u64 t401] 51 (0, 0)) (by (with_reducible repeat (first | refine blk_drewN ?_ _ | refine blk_drew ?_ | refine blk_alloc ?_ _)); exact BK403.out) hb); have n4_ := Aside0.mk (blk_below (g := gb404) (o := .cells #[.bool (!t389), .slice Ao13 t390.length co13, .int .i64 t393, .int .i64 t394] 25 (0, 0)) (by (with_reducible repeat (first | refine blk_drewN ?_ _ | refine blk_drew ?_ | refine blk_alloc ?_ _)); exact BK404.out) hb); have n5_ := Aside0.mk (below_step (by repeat (first | (with_reducible first | exact HB.out | apply below_alloc | apply pw_below_drewN | apply below_drew1 | refine below_set ?_ GE387.out | refine below_set ?_ GE403.out | refine below_set ?_ GE404.out) | exact HB.out)) hb); clear HO_388001; clear HO_405001; clear BK387; clear BK403; clear BK404; clear HB; have HO_388001 := n0_; have HO_405001 := n1_; have BK387 := n2_; have BK403 := n3_; have BK404 := n4_; have HB := n5_; clear n0_ n1_ n2_ n3_ n4_ n5_; (try clear hb); (try clear hb2); (try clear hk); (try clear hi)))
                            go_ret
                            exact ⟨by first | rfl | (simp [errW_none, errW_some] <;> rfl) | (simp [*, errW_none, errW_some] <;> rfl), by repeat (first | (with_reducible first | exact HB.out | apply below_alloc | apply pw_below_drewN | apply below_drew1 | refine below_set ?_ GE387.out | refine below_set ?_ GE403.out | refine below_set ?_ GE404.out) | exact HB.out)⟩
                          · replace c70 := Bool.eq_false_iff.mpr c70
                            subst c70
                            have H1 : (some false) = some r := by rw [if_neg (show ¬ (false = true) by decide)] at H; exact H
                            clear H
                            have H := H1
                            clear H1
                            obtain rfl := Option.some.inj H
                            have hnb76 := NB403_387.out
                            have hnc76 := NB387_403.out
                            have hnb77 := NB403_404.out
                            have hnc77 := NB404_403.out
                            have hcz78_0 : wc.cell? ⟨gb403, 0, none⟩ = some (.int .i64 t395) := (blk_cell BK403.out 0).trans rfl
                            have hcz78_1 : wc.cell? ⟨gb403, 1, none⟩ = some (.int .i64 t396) := (blk_cell BK403.out 1).trans rfl
                            have hcz78_2 : wc.cell? ⟨gb403, 2, none⟩ = some (.int .i64 t397) := (blk_cell BK403.out 2).trans rfl
                            have hcz78_3 : wc.cell? ⟨gb403, 3, none⟩ = some (.int .i64 t398) := (blk_cell BK403.out 3).trans rfl
                            have hcz78_4 : wc.cell? ⟨gb403, 4, none⟩ = some (.int .u64 t399) := (blk_cell BK403.out 4).trans rfl
                            have hcz78_5 : wc.cell? ⟨gb403, 5, none⟩ = some (.int .u64 t400) := (blk_cell BK403.out 5).trans rfl
                            have hcz78_6 : wc.cell? ⟨gb403, 6, none⟩ = some (.int .u64 t401) := (blk_cell BK403.out 6).trans rfl
                            have hfz78_0 := blk_frozen BK403.out 0
                            have hfz78_1 := blk_frozen BK403.out 1
                            have hfz78_2 := blk_frozen BK403.out 2
                            have hfz78_3 := blk_frozen BK403.out 3
                            have hfz78_4 := blk_frozen BK403.out 4
                            have hfz78_5 := blk_frozen BK403.out 5
                            have hfz78_6 := blk_frozen BK403.out 6
                            go_wp2
                            go_ret
                            exact ⟨by first | rfl | (simp [errW_none, errW_some] <;> rfl) | (simp [*, errW_none, errW_some] <;> rfl), by repeat (first | (with_reducible first | exact HB.out | apply below_alloc | apply pw_below_drewN | apply below_drew1 | refine below_set ?_ GE387.out | refine below_set ?_ GE403.out | refine below_set ?_ GE404.out) | exact HB.out)⟩

end Go.Proofs.YtmcodbgbjjldnaaDoor.Pr
