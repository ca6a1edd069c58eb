/- Contract by hand: round.Limits, one of its ways. -/
import Derived.Test.YtmcodbgbjjldnaaDoorGivL00
set_option linter.unusedVariables false
set_option linter.unusedSimpArgs false
namespace Go.Proofs.YtmcodbgbjjldnaaDoor.Pr
open Go.RowKit Go.Proofs.YtmcodbgbjjldnaaDoorW.PrintWords Go.Proofs.YtmcodbgbjjldnaaDoorW.PrintLast Go.Proofs.YtmcodbgbjjldnaaDoorW.PrintMore
set_option maxHeartbeats 8000000 in
set_option maxRecDepth 100000 in
theorem lim01 (a0 a1 : Int) (k1 : Bool) (k2 q1 q2 q3 q4 q5 q6 q7 q8 m me u3 u4 o3 o4 : Int) (u1 o1 : Bool) (u2 o2 : List Int) (w : World) (HG : Aside0 (Glob w)) (HK : Aside0 (value_Key.f a0 a1 = some (k1, k2, 0))) (HF : Aside0 (forms_Of.f a0 = some (q1, q2, q3, q4, q5, q6, q7, q8))) (HM : Aside0 (value_Most.f a0 k1 = some (m, me))) (HH : Aside0 (round_behind.f a0 k2 = some (o1, o2, o3, o4)))
    (hb : ((k2 == 0) = false ∧ True) ∨ ((k2 == 0) = true ∧ (q1 != 4) = false)) (hd : ((q1 == 1) = true ∧ (q1 != 1) = false ∧ decide (2 ≤ k2) = false ∧ decide (k2 < m) = true ∧ True) ∨ ((q1 == 1) = false ∧ (q1 != 1) = true ∧ decide (1 ≤ k2) = false ∧ decide (k2 < m) = true ∧ True) ∨ ((q1 == 1) = false ∧ (q1 != 1) = true ∧ decide (1 ≤ k2) = false ∧ decide (k2 < m) = false ∧ (Go.bits .or .u64 q6 q7 != 0) = true)) :
    Calls Tryd.prog 27 #[.int .i64 a0, .int .u64 a1] w fun e_ w' => ∃ v1_ v5_ : Value, e_ = .returned (.tuple #[.agg #[.bool false, v1_, .int .i64 0, .int .i64 0], .agg #[.bool o1, v5_, .int .i64 o3, .int .i64 o4], .bool (Go.bits .and .u64 k2 1 == 0), .int .i64 0]) ∧ Kd.V (Kd.int .u64) 28 w' w.heap.size (fun k_ => w.heap.size ≤ k_) v1_ [] ∧ Kd.V (Kd.int .u64) 28 w' w.heap.size (fun k_ => w.heap.size ≤ k_) v5_ o2 ∧ Below w.heap.size w w' := by
  have HB := Aside0.mk (Below.refl w.heap.size w)
  rcases hb with ⟨b1, b1'⟩ | ⟨b1, b1'⟩ <;> rcases hd with ⟨b2, b3, b4, b5, b6⟩ | ⟨b2, b3, b4, b5, b6⟩ | ⟨b2, b3, b4, b5, b6⟩
  all_goals
    go_enter Tryd.func27, Tryd.ntmps27
    go_wp2_with (first | (go_at_call 53; (with_reducible refine (value_Key.calls a0 a1 k1 k2 0 _ ?hg HK.out).mono ?_); (case hg => exact Glob.below HG.out (by repeat (with_reducible first | exact HB.out | apply below_alloc | apply pw_below_drewN | apply below_drew1))); rintro e_ w1 ⟨rfl, hb1⟩; have hc1 := fun j => hb1.cell (p := ⟨w.heap.size, j, none⟩) (by simp <;> omega); have hd1 := fun j => hb1.cell (p := ⟨w.heap.size + 1, j, none⟩) (by simp <;> omega); have hz1 := fun j => hb1.frozen (p := ⟨w.heap.size, j, none⟩) (by simp <;> omega); have hy1 := fun j => hb1.frozen (p := ⟨w.heap.size + 1, j, none⟩) (by simp <;> omega); have hlt1 : w.heap.size + 1 < w1.heap.size := (by have := hb1.size; (try simp at this); omega); have HB1 := Aside0.mk (below_step (by repeat (with_reducible first | exact HB.out | apply below_alloc | apply pw_below_drewN | apply below_drew1)) hb1); clear hb1) | (go_at_call 23; (with_reducible refine (forms_Of.calls a0 q1 q2 q3 q4 q5 q6 q7 q8 _ ?hg HF.out).mono ?_); (case hg => exact Glob.below HG.out (by repeat (with_reducible first | exact HB1.out | apply below_alloc | refine below_set ?_ (Nat.le_refl _) | refine below_set ?_ (Nat.le_succ _) | apply pw_below_drewN | apply below_drew1 | apply below_drew))); rintro e_ w2 ⟨rfl, hb2⟩; have hc2 := fun j => hb2.cell (p := ⟨w.heap.size, j, none⟩) (by simp <;> omega); have hd2 := fun j => hb2.cell (p := ⟨w.heap.size + 1, j, none⟩) (by simp <;> omega); have hz2 := fun j => hb2.frozen (p := ⟨w.heap.size, j, none⟩) (by simp <;> omega); have hy2 := fun j => hb2.frozen (p := ⟨w.heap.size + 1, j, none⟩) (by simp <;> omega); have hlt2 : w1.heap.size ≤ w2.heap.size := (by have := hb2.size; (try simp at this); omega); have hg2 : w.heap.size ≤ w2.heap.size := (by omega); have hp1 : w.heap.size < w2.heap.size := (by omega); have hp2 : w.heap.size + 1 < w2.heap.size := (by omega); have hn1 : ¬ w.heap.size = w2.heap.size := (by omega); have hn2 : ¬ w.heap.size + 1 = w2.heap.size := (by omega); have hn3 : ¬ w2.heap.size = w.heap.size := (by omega); have hn4 : ¬ w2.heap.size = w.heap.size + 1 := (by omega); have HB2 := Aside0.mk (below_step (by repeat (with_reducible first | exact HB1.out | apply below_alloc | refine below_set ?_ (Nat.le_refl _) | refine below_set ?_ (Nat.le_succ _) | apply pw_below_drewN | apply below_drew1 | apply below_drew)) hb2); clear hb2) | (go_at_call 22; (with_reducible refine (value_Most.calls a0 k1 m me _ ?hg HM.out).mono ?_); (case hg => exact Glob.below HG.out (by repeat (with_reducible first | exact HB2.out | apply below_alloc | refine below_set ?_ (Nat.le_refl _) | refine below_set ?_ (Nat.le_succ _) | refine below_set ?_ hg2 | apply pw_below_drewN | apply below_drew1 | apply below_drew))); rintro e_ w3 ⟨rfl, hb3⟩; have hc3 := fun j => hb3.cell (p := ⟨w.heap.size, j, none⟩) (by simp <;> omega); have hd3 := fun j => hb3.cell (p := ⟨w.heap.size + 1, j, none⟩) (by simp <;> omega); have hz3 := fun j => hb3.frozen (p := ⟨w.heap.size, j, none⟩) (by simp <;> omega); have hy3 := fun j => hb3.frozen (p := ⟨w.heap.size + 1, j, none⟩) (by simp <;> omega); have hf3 := fun j => hb3.cell (p := ⟨w2.heap.size, j, none⟩) (by simp <;> omega); have hx3 := fun j => hb3.frozen (p := ⟨w2.heap.size, j, none⟩) (by simp <;> omega); have hlt3 : w2.heap.size < w3.heap.size := (by have := hb3.size; (try simp at this); omega); have HB3 := Aside0.mk (below_step (by repeat (with_reducible first | exact HB2.out | apply below_alloc | refine below_set ?_ (Nat.le_refl _) | refine below_set ?_ (Nat.le_succ _) | refine below_set ?_ hg2 | apply pw_below_drewN | apply below_drew1 | apply below_drew)) hb3); clear hb3) | (go_at_call 54; (with_reducible refine (round_behind.calls a0 k2 o1 o2 o3 o4 _ ?hg HH.out).mono ?_); (case hg => exact Glob.below HG.out (by repeat (with_reducible first | exact HB3.out | apply below_alloc | refine below_set ?_ (Nat.le_refl _) | refine below_set ?_ (Nat.le_succ _) | refine below_set ?_ hg2 | apply pw_below_drewN | apply below_drew1 | apply below_drew))); rintro e_ w5 ⟨v5, rfl, hv5, hb5⟩; have hc5 := fun j => hb5.cell (p := ⟨w.heap.size, j, none⟩) (by simp <;> omega); have hd5 := fun j => hb5.cell (p := ⟨w.heap.size + 1, j, none⟩) (by simp <;> omega); have hz5 := fun j => hb5.frozen (p := ⟨w.heap.size, j, none⟩) (by simp <;> omega); have hy5 := fun j => hb5.frozen (p := ⟨w.heap.size + 1, j, none⟩) (by simp <;> omega); have hf5 := fun j => hb5.cell (p := ⟨w2.heap.size, j, none⟩) (by simp <;> omega); have hx5 := fun j => hb5.frozen (p := ⟨w2.heap.size, j, none⟩) (by simp <;> omega); have hlt5 : w2.heap.size < w5.heap.size := (by have := hb5.size; (try simp at this); omega); obtain ⟨A5, c5, rfl⟩ := Kd.V_slice hv5; have HV5 := Aside0.mk hv5; clear hv5; have HB5 := Aside0.mk (below_step (by repeat (with_reducible first | exact HB3.out | apply below_alloc | refine below_set ?_ (Nat.le_refl _) | refine below_set ?_ (Nat.le_succ _) | refine below_set ?_ hg2 | apply pw_below_drewN | apply below_drew1 | apply below_drew)) hb5); clear hb5))
    refine start_ (n := 9) (S := fun w' => w'.cell? ⟨w.heap.size, 0, none⟩ = some (.bool false) ∧ w'.cell? ⟨w.heap.size, 1, none⟩ = some (.slice none 0 0) ∧ w'.cell? ⟨w.heap.size, 2, none⟩ = some (.int .i64 0) ∧ w'.cell? ⟨w.heap.size, 3, none⟩ = some (.int .i64 0) ∧ w'.cell? ⟨(w.heap.size + 1), 0, none⟩ = some (.bool o1) ∧ w'.cell? ⟨(w.heap.size + 1), 1, none⟩ = some (.slice A5 o2.length c5) ∧ w'.cell? ⟨(w.heap.size + 1), 2, none⟩ = some (.int .i64 o3) ∧ w'.cell? ⟨(w.heap.size + 1), 3, none⟩ = some (.int .i64 o4) ∧ (∀ j, w'.frozen? ⟨w.heap.size, j, none⟩ = false) ∧ (∀ j, w'.frozen? ⟨(w.heap.size + 1), j, none⟩ = false) ∧ Below w.heap.size w w' ∧ Kd.V (Kd.int .u64) 28 w' w.heap.size (fun k_ => w.heap.size ≤ k_) (.slice A5 o2.length c5) o2) (ds := []) #[false, false, false, false, false, false, false, false, false] (by kernel_rfl) rfl rfl ⟨(by simp (maxDischargeDepth := 5) [↓isSome_setCell_eq, go_sem, hc1, hd1, hz1, hy1, hc2, hd2, hz2, hy2, hc3, hd3, hz3, hy3, hf3, hx3, hc5, hd5, hz5, hy5, hf5, hx5, hn1, hn2, hn3, hn4, hp1, hp2, World.cell?_alloc_lt, hlt1, hlt2, hlt3, hlt5]), (by simp (maxDischargeDepth := 5) [↓isSome_setCell_eq, go_sem, hc1, hd1, hz1, hy1, hc2, hd2, hz2, hy2, hc3, hd3, hz3, hy3, hf3, hx3, hc5, hd5, hz5, hy5, hf5, hx5, hn1, hn2, hn3, hn4, hp1, hp2, World.cell?_alloc_lt, hlt1, hlt2, hlt3, hlt5]), (by simp (maxDischargeDepth := 5) [↓isSome_setCell_eq, go_sem, hc1, hd1, hz1, hy1, hc2, hd2, hz2, hy2, hc3, hd3, hz3, hy3, hf3, hx3, hc5, hd5, hz5, hy5, hf5, hx5, hn1, hn2, hn3, hn4, hp1, hp2, World.cell?_alloc_lt, hlt1, hlt2, hlt3, hlt5]), (by simp (maxDischargeDepth := 5) [↓isSome_setCell_eq, go_sem, hc1, hd1, hz1, hy1, hc2, hd2, hz2, hy2, hc3, hd3, hz3, hy3, hf3, hx3, hc5, hd5, hz5, hy5, hf5, hx5, hn1, hn2, hn3, hn4, hp1, hp2, World.cell?_alloc_lt, hlt1, hlt2, hlt3, hlt5]), (by simp (maxDischargeDepth := 5) [↓isSome_setCell_eq, go_sem, hc1, hd1, hz1, hy1, hc2, hd2, hz2, hy2, hc3, hd3, hz3, hy3, hf3, hx3, hc5, hd5, hz5, hy5, hf5, hx5, hn1, hn2, hn3, hn4, hp1, hp2, World.cell?_alloc_lt, hlt1, hlt2, hlt3, hlt5]), (by simp (maxDischargeDepth := 5) [↓isSome_setCell_eq, go_sem, hc1, hd1, hz1, hy1, hc2, hd2, hz2, hy2, hc3, hd3, hz3, hy3, hf3, hx3, hc5, hd5, hz5, hy5, hf5, hx5, hn1, hn2, hn3, hn4, hp1, hp2, World.cell?_alloc_lt, hlt1, hlt2, hlt3, hlt5]), (by simp (maxDischargeDepth := 5) [↓isSome_setCell_eq, go_sem, hc1, hd1, hz1, hy1, hc2, hd2, hz2, hy2, hc3, hd3, hz3, hy3, hf3, hx3, hc5, hd5, hz5, hy5, hf5, hx5, hn1, hn2, hn3, hn4, hp1, hp2, World.cell?_alloc_lt, hlt1, hlt2, hlt3, hlt5]), (by simp (maxDischargeDepth := 5) [↓isSome_setCell_eq, go_sem, hc1, hd1, hz1, hy1, hc2, hd2, hz2, hy2, hc3, hd3, hz3, hy3, hf3, hx3, hc5, hd5, hz5, hy5, hf5, hx5, hn1, hn2, hn3, hn4, hp1, hp2, World.cell?_alloc_lt, hlt1, hlt2, hlt3, hlt5]), (fun j => (by simp (maxDischargeDepth := 5) [↓isSome_setCell_eq, go_sem, hc1, hd1, hz1, hy1, hc2, hd2, hz2, hy2, hc3, hd3, hz3, hy3, hf3, hx3, hc5, hd5, hz5, hy5, hf5, hx5, hn1, hn2, hn3, hn4, hp1, hp2, World.cell?_alloc_lt, hlt1, hlt2, hlt3, hlt5])), (fun j => (by simp (maxDischargeDepth := 5) [↓isSome_setCell_eq, go_sem, hc1, hd1, hz1, hy1, hc2, hd2, hz2, hy2, hc3, hd3, hz3, hy3, hf3, hx3, hc5, hd5, hz5, hy5, hf5, hx5, hn1, hn2, hn3, hn4, hp1, hp2, World.cell?_alloc_lt, hlt1, hlt2, hlt3, hlt5])), (by refine below_drew ?_; repeat (with_reducible first | exact HB5.out | apply below_alloc | refine below_set ?_ (Nat.le_refl _) | refine below_set ?_ (Nat.le_succ _) | refine below_set ?_ hg2 | apply pw_below_drewN | apply below_drew1 | apply below_drew)), (by refine Kd.V_drew ?_; refine Kd.V_mono (ok := fun k_ => k_ ≠ w.heap.size ∧ k_ ≠ w.heap.size + 1 ∧ w.heap.size ≤ k_) ?_ (fun _ h_ => h_.2.2); repeat (first | (exact (Kd.V_map HV5.out (fun _ hf_ => Kd.F_mono hf_ (fun k_ h_ => (by (try simp at h_); omega))))) | (refine Kd.V_far ?_ (fun k_ hk_ => (by first | exact hk_.1 | exact hk_.2.1)) _)))⟩ (fun hHeld => ?_)
    revert hHeld
    generalize World.drew _ = W_
    intro hHeld
    refine pure_ (i := 2) (N := some 78) (v := ?_) (a' := ?_) #[false, false, true, false, false, false, false, false, false] rfl rfl (by kernel_rfl) (fun _ _ _ h => h) (Or.inl ⟨by rfl, ?_⟩) ?_ ?_
    rotate_left
    · intro w'
      go_simp
      with_reducible rfl
    rotate_left
    · simp only [Act.put, List.setIfInBounds_toArray, List.set_cons_zero, List.set_cons_succ, i64_w, i32_w]
      rfl
    refine pure_ (i := 3) (N := some 79) (v := ?_) (a' := ?_) #[false, false, true, true, false, false, false, false, false] rfl rfl (by kernel_rfl) (fun _ _ _ h => h) (Or.inl ⟨by rfl, ?_⟩) ?_ ?_
    rotate_left
    · intro w'
      go_simp
      with_reducible rfl
    rotate_left
    · simp only [Act.put, List.setIfInBounds_toArray, List.set_cons_zero, List.set_cons_succ, i64_w, i32_w]
      rfl
    refine pure_ (i := 4) (N := some 80) (v := ?_) (a' := ?_) #[false, false, true, true, true, false, false, false, false] rfl rfl (by kernel_rfl) (fun _ _ _ h => h) (Or.inl ⟨by rfl, ?_⟩) ?_ ?_
    rotate_left
    · intro w'
      go_simp
      with_reducible rfl
    rotate_left
    · simp only [Act.put, List.setIfInBounds_toArray, List.set_cons_zero, List.set_cons_succ, i64_w, i32_w]
      rfl
    refine take_ (i := 0) (N := some 76) (v := ?_) (a' := ?_) #[true, false, true, true, true, false, false, false, false] rfl rfl (by kernel_rfl) (fun _ _ _ h => h) (Or.inl ⟨by rfl, ?_⟩) hHeld ?_ ?_
    rotate_left
    · rintro w' ⟨s0, s1, s2, s3, s4, s5, s6, s7, s8, s9, s10, s11⟩
      go_simp
      with_reducible rfl
    rotate_left
    · simp only [Act.put, List.setIfInBounds_toArray, List.set_cons_zero, List.set_cons_succ, i64_w, i32_w]
      rfl
    refine take_ (i := 1) (N := some 77) (v := ?_) (a' := ?_) #[true, true, true, true, true, false, false, false, false] rfl rfl (by kernel_rfl) (fun _ _ _ h => h) (Or.inl ⟨by rfl, ?_⟩) hHeld ?_ ?_
    rotate_left
    · rintro w' ⟨s0, s1, s2, s3, s4, s5, s6, s7, s8, s9, s10, s11⟩
      go_simp
      with_reducible rfl
    rotate_left
    · simp only [Act.put, List.setIfInBounds_toArray, List.set_cons_zero, List.set_cons_succ, i64_w, i32_w]
      rfl
    refine one_ (i := 5) (N := none) #[true, true, true, true, true, true, false, false, false] rfl rfl (by kernel_rfl) (by decide) (fun K hK => ?_)
    obtain ⟨s0, s1, s2, s3, s4, s5, s6, s7, s8, s9, s10, s11⟩ := hHeld
    refine skip_ (w1 := ?_) (by rfl) rfl ?_ ?_
    rotate_left
    · simp (maxDischargeDepth := 5) [↓isSome_setCell_eq, go_sem, s0, s1, s2, s3, s4, s5, s6, s7, s8, s9]
      rfl
    refine hK.out _ _ ⟨(by rw [setCell_self4 s0 s1 s2 s3]; exact s0), (by rw [setCell_self4 s0 s1 s2 s3]; exact s1), (by rw [setCell_self4 s0 s1 s2 s3]; exact s2), (by rw [setCell_self4 s0 s1 s2 s3]; exact s3), (by rw [setCell_self4 s0 s1 s2 s3]; exact s4), (by rw [setCell_self4 s0 s1 s2 s3]; exact s5), (by rw [setCell_self4 s0 s1 s2 s3]; exact s6), (by rw [setCell_self4 s0 s1 s2 s3]; exact s7), (by rw [setCell_self4 s0 s1 s2 s3]; exact s8), (by rw [setCell_self4 s0 s1 s2 s3]; exact s9), (by rw [setCell_self4 s0 s1 s2 s3]; exact s10), (by rw [setCell_self4 s0 s1 s2 s3]; exact s11)⟩ (fun hHeld => ?_)
    clear hK K
    rw [setCell_self4 s0 s1 s2 s3] at hHeld ⊢
    refine one_ (i := 6) (N := none) #[true, true, true, true, true, true, true, false, false] rfl rfl (by kernel_rfl) (by decide) (fun K hK => ?_)
    obtain ⟨s0, s1, s2, s3, s4, s5, s6, s7, s8, s9, s10, s11⟩ := hHeld
    refine skip_ (w1 := ?_) (by rfl) rfl ?_ ?_
    rotate_left
    · simp (maxDischargeDepth := 5) [↓isSome_setCell_eq, go_sem, s0, s1, s2, s3, s4, s5, s6, s7, s8, s9]
      rfl
    refine hK.out _ _ ⟨(by rw [setCell_self4 s4 s5 s6 s7]; exact s0), (by rw [setCell_self4 s4 s5 s6 s7]; exact s1), (by rw [setCell_self4 s4 s5 s6 s7]; exact s2), (by rw [setCell_self4 s4 s5 s6 s7]; exact s3), (by rw [setCell_self4 s4 s5 s6 s7]; exact s4), (by rw [setCell_self4 s4 s5 s6 s7]; exact s5), (by rw [setCell_self4 s4 s5 s6 s7]; exact s6), (by rw [setCell_self4 s4 s5 s6 s7]; exact s7), (by rw [setCell_self4 s4 s5 s6 s7]; exact s8), (by rw [setCell_self4 s4 s5 s6 s7]; exact s9), (by rw [setCell_self4 s4 s5 s6 s7]; exact s10), (by rw [setCell_self4 s4 s5 s6 s7]; exact s11)⟩ (fun hHeld => ?_)
    clear hK K
    rw [setCell_self4 s4 s5 s6 s7] at hHeld ⊢
    refine pure_ (i := 7) (N := some 6) (v := ?_) (a' := ?_) #[true, true, true, true, true, true, true, true, false] rfl rfl (by kernel_rfl) (fun _ _ _ h => h) (Or.inl ⟨by rfl, ?_⟩) ?_ ?_
    rotate_left
    · intro w'
      go_simp
      with_reducible rfl
    rotate_left
    · simp only [Act.put, List.setIfInBounds_toArray, List.set_cons_zero, List.set_cons_succ, i64_w, i32_w]
      rfl
    refine pure_ (i := 8) (N := some 7) (v := ?_) (a' := ?_) #[true, true, true, true, true, true, true, true, true] rfl rfl (by kernel_rfl) (fun _ _ _ h => h) (Or.inl ⟨by rfl, ?_⟩) ?_ ?_
    rotate_left
    · intro w'
      go_simp
      with_reducible rfl
    rotate_left
    · simp only [Act.put, List.setIfInBounds_toArray, List.set_cons_zero, List.set_cons_succ, i64_w, i32_w]
      rfl
    refine done_ (by kernel_rfl) ?_

    obtain ⟨s0, s1, s2, s3, s4, s5, s6, s7, s8, s9, s10, s11⟩ := hHeld
    go_wp2
    refine bodyPost_ret (v := .tuple #[.agg #[.bool false, .slice none 0 0, .int .i64 0, .int .i64 0], .agg #[.bool o1, .slice A5 o2.length c5, .int .i64 o3, .int .i64 o4], .bool (Go.bits .and .u64 k2 1 == 0), .int .i64 0]) (by simp [results, Tryd.results27, go_sem, s0, s1, s2, s3, s4, s5, s6, s7]) rfl ⟨_, _, rfl, Kd.V_nil _ _ _ _ _, s11, s10⟩
end Go.Proofs.YtmcodbgbjjldnaaDoor.Pr
