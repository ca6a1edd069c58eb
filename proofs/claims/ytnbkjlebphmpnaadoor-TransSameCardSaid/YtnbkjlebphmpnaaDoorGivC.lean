/- Contract by hand: forms.Canon. -/
import Derived.Test.YtnbkjlebphmpnaaDoorGivA
import Derived.Test.YtnbkjlebphmpnaaDoorPrx3
import Derived.Test.YtnbkjlebphmpnaaDoorPrx5
set_option linter.unusedVariables false
set_option linter.unusedSimpArgs false
namespace Go.Proofs.YtnbkjlebphmpnaaDoor.Pr
open Go.RowKit Go.Proofs.YtnbkjlebphmpnaaDoorW.PrintWords Go.Proofs.YtnbkjlebphmpnaaDoorW.PrintLast Go.Proofs.YtnbkjlebphmpnaaDoorW.PrintMore

def forms_Canon.f (a0 a1 : Int) : Option (Int × Int) :=
  (forms_Fits.f a0 a1).bind fun e => if e = 0 then (if 0 ≤ a0 ∧ a0 < 15 then (forms_Form_number.f (ft a0.toNat 0) (ft a0.toNat 1) (ft a0.toNat 2) (ft a0.toNat 3) (ft a0.toNat 4) (ft a0.toNat 5) (ft a0.toNat 6) a1).bind fun b => if b = true then some (a1, 0) else some (ft a0.toNat 6, 0) else none) else some (0, e)
set_option maxHeartbeats 4000000 in
set_option maxRecDepth 100000 in
theorem forms_Canon.calls (a0 a1 r1 r2 : Int) (w : World) (hG : Glob w) (h : forms_Canon.f a0 a1 = some (r1, r2)) :
    Calls Tryd.prog 19 #[.int .i64 a0, .int .u64 a1] w fun e w' => e = .returned (.tuple #[.int .u64 r1, .int .i64 r2]) ∧ Below w.heap.size w w' := by
  obtain ⟨e, hx, h⟩ := Option.bind_eq_some_iff.1 h
  have HG := Aside0.mk hG
  have HX := Aside0.mk hx
  have HB := Aside0.mk (Below.refl w.heap.size w)
  clear hG hx
  by_cases c0 : e = 0
  · rw [if_pos c0] at h
    by_cases c1 : 0 ≤ a0 ∧ a0 < 15
    · rw [if_pos c1] at h
      obtain ⟨b, hb, h⟩ := Option.bind_eq_some_iff.1 h
      obtain ⟨i, rfl⟩ := Int.eq_ofNat_of_zero_le c1.1
      simp only [Int.toNat_natCast] at hb h
      have HN := Aside0.mk hb
      clear hb
      have hi : i < 15 := by omega
      clear c1
      have hG := HG.out
      have hz : 0 < w.heap.size := World.block_lt_of_cell? w _ (hG.k0 i hi)
      have b0 : (e != 0) = false := bne_eq_false_iff_eq.2 c0
      subst c0
      cases b with
      | true =>
        simp only [if_true, Option.some.injEq, Prod.mk.injEq] at h
        obtain ⟨rfl, rfl⟩ := h
        go_enter Tryd.func19, Tryd.ntmps19
        go_wp2_with (first | (go_at_call 21; (with_reducible refine (forms_Fits.calls _ a1 _ _ HG.out HX.out).mono ?_); rintro e1 w1 ⟨rfl, hb1⟩; have hlt1 : w.heap.size ≤ w1.heap.size := hb1.size; have hG1 := Glob.below HG.out hb1; have hz1 : 0 < w1.heap.size := World.block_lt_of_cell? w1 _ (hG1.k0 i hi); have q0 := hG1.k0 i hi; have p0 := fun o => (World.cell?_alloc_lt w1 o ⟨0, i * 7, none⟩ hz1).trans (hG1.k0 i hi); have q1 := hG1.k1 i hi; have p1 := fun o => (World.cell?_alloc_lt w1 o ⟨0, i * 7 + 1, none⟩ hz1).trans (hG1.k1 i hi); have q2 := hG1.k2 i hi; have p2 := fun o => (World.cell?_alloc_lt w1 o ⟨0, i * 7 + 2, none⟩ hz1).trans (hG1.k2 i hi); have q3 := hG1.k3 i hi; have p3 := fun o => (World.cell?_alloc_lt w1 o ⟨0, i * 7 + 3, none⟩ hz1).trans (hG1.k3 i hi); have q4 := hG1.k4 i hi; have p4 := fun o => (World.cell?_alloc_lt w1 o ⟨0, i * 7 + 4, none⟩ hz1).trans (hG1.k4 i hi); have q5 := hG1.k5 i hi; have p5 := fun o => (World.cell?_alloc_lt w1 o ⟨0, i * 7 + 5, none⟩ hz1).trans (hG1.k5 i hi); have q6 := hG1.k6 i hi; have p6 := fun o => (World.cell?_alloc_lt w1 o ⟨0, i * 7 + 6, none⟩ hz1).trans (hG1.k6 i hi); have HB1 := Aside0.mk hb1; clear hb1 hG1) | (go_at_call 34; (with_reducible refine (forms_Form_number.calls _ _ _ _ _ _ _ a1 _ _ HN.out).mono ?_); rintro e2 w2 ⟨rfl, hb2⟩; have hc2 := fun j => hb2.cell (p := ⟨w1.heap.size, j, none⟩) (by simp); have hlt2 : w1.heap.size < w2.heap.size := (by have := hb2.size; simp at this; omega); have HB2 := Aside0.mk (below_step (by repeat (with_reducible first | exact HB1.out | apply below_alloc | (refine below_set ?_ hlt1) | apply pw_below_drewN | apply below_drew1)) hb2); clear hb2))
        go_ret2
        exact ⟨rfl, HB2.out⟩
      | false =>
        simp only [Bool.false_eq_true, if_false, Option.some.injEq, Prod.mk.injEq] at h
        obtain ⟨rfl, rfl⟩ := h
        go_enter Tryd.func19, Tryd.ntmps19
        go_wp2_with (first | (go_at_call 21; (with_reducible refine (forms_Fits.calls _ a1 _ _ HG.out HX.out).mono ?_); rintro e1 w1 ⟨rfl, hb1⟩; have hlt1 : w.heap.size ≤ w1.heap.size := hb1.size; have hG1 := Glob.below HG.out hb1; have hz1 : 0 < w1.heap.size := World.block_lt_of_cell? w1 _ (hG1.k0 i hi); have q0 := hG1.k0 i hi; have p0 := fun o => (World.cell?_alloc_lt w1 o ⟨0, i * 7, none⟩ hz1).trans (hG1.k0 i hi); have q1 := hG1.k1 i hi; have p1 := fun o => (World.cell?_alloc_lt w1 o ⟨0, i * 7 + 1, none⟩ hz1).trans (hG1.k1 i hi); have q2 := hG1.k2 i hi; have p2 := fun o => (World.cell?_alloc_lt w1 o ⟨0, i * 7 + 2, none⟩ hz1).trans (hG1.k2 i hi); have q3 := hG1.k3 i hi; have p3 := fun o => (World.cell?_alloc_lt w1 o ⟨0, i * 7 + 3, none⟩ hz1).trans (hG1.k3 i hi); have q4 := hG1.k4 i hi; have p4 := fun o => (World.cell?_alloc_lt w1 o ⟨0, i * 7 + 4, none⟩ hz1).trans (hG1.k4 i hi); have q5 := hG1.k5 i hi; have p5 := fun o => (World.cell?_alloc_lt w1 o ⟨0, i * 7 + 5, none⟩ hz1).trans (hG1.k5 i hi); have q6 := hG1.k6 i hi; have p6 := fun o => (World.cell?_alloc_lt w1 o ⟨0, i * 7 + 6, none⟩ hz1).trans (hG1.k6 i hi); have HB1 := Aside0.mk hb1; clear hb1 hG1) | (go_at_call 34; (with_reducible refine (forms_Form_number.calls _ _ _ _ _ _ _ a1 _ _ HN.out).mono ?_); rintro e2 w2 ⟨rfl, hb2⟩; have hc2 := fun j => hb2.cell (p := ⟨w1.heap.size, j, none⟩) (by simp); have hlt2 : w1.heap.size < w2.heap.size := (by have := hb2.size; simp at this; omega); have HB2 := Aside0.mk (below_step (by repeat (with_reducible first | exact HB1.out | apply below_alloc | (refine below_set ?_ hlt1) | apply pw_below_drewN | apply below_drew1)) hb2); clear hb2))
        go_ret2
        exact ⟨rfl, HB2.out⟩
    · rw [if_neg c1] at h
      cases h
  · rw [if_neg c0] at h
    simp only [Option.some.injEq, Prod.mk.injEq] at h
    obtain ⟨rfl, rfl⟩ := h
    have b0 : (e != 0) = true := bne_iff_ne.2 c0
    go_enter Tryd.func19, Tryd.ntmps19
    go_wp2_with (go_at_call 21; (with_reducible refine (forms_Fits.calls a0 a1 _ _ HG.out HX.out).mono ?_); rintro e1 w1 ⟨rfl, hb1⟩; have hlt1 : w.heap.size ≤ w1.heap.size := hb1.size; have HB1 := Aside0.mk hb1; clear hb1)
    go_ret2
    exact ⟨rfl, HB1.out⟩
end Go.Proofs.YtnbkjlebphmpnaaDoor.Pr
