/- Contracts by hand: the model's Add64, nat.trim (a cut with a capacity), slices.Clone. -/
import Derived.Test.YtmcodbgbjjldnaaDoorGivA
import Derived.Test.YtmcodbgbjjldnaaDoorWN
import Derived.Lib.SliceRun
set_option linter.unusedVariables false
set_option linter.unusedSimpArgs false
namespace Go.Proofs.YtmcodbgbjjldnaaDoor.Pr
open Go.RowKit Go.Proofs.YtmcodbgbjjldnaaDoorW.PrintWords Go.Proofs.YtmcodbgbjjldnaaDoorW.PrintLast Go.Proofs.YtmcodbgbjjldnaaDoorW.PrintMore

/-- A word. -/
def Wd (x : Int) : Prop := 0 ≤ x ∧ x < 18446744073709551616
instance (x : Int) : Decidable (Wd x) := by unfold Wd; infer_instance
def bits_Add64.f (x y c : Int) : Option (Int × Int) := if Wd x ∧ Wd y ∧ 0 ≤ c ∧ c ≤ 1 then some ((x + y + c) % 18446744073709551616, (x + y + c) / 18446744073709551616) else none
theorem add64_nat (x y c : Nat) (hx : x < 18446744073709551616) (hy : y < 18446744073709551616) (hc : c ≤ 1) (w : World) : (callFunc 85 #[.int .u64 x, .int .u64 y, .int .u64 c]).run Tryd.prog w =
    .ok (.value (.tuple #[.int .u64 (((x + y + c) % 18446744073709551616 : Nat) : Int), .int .u64 (((x + y + c) / 18446744073709551616 : Nat) : Int)])) w := by
  rw [run_callFunc_extern Tryd.func85 (by kernel_rfl) (by kernel_rfl) (by kernel_rfl) (e := add64Entry) (by kernel_rfl), run_add64 x y c (by omega) (by omega) (by omega) (by omega)]
  simp only [Result.andThen]
  congr 5 <;> omega
theorem bits_Add64.runs (x y c r1 r2 : Int) (w : World) (h : bits_Add64.f x y c = some (r1, r2)) : (callFunc 85 #[.int .u64 x, .int .u64 y, .int .u64 c]).run Tryd.prog w = .ok (.value (.tuple #[.int .u64 r1, .int .u64 r2])) w := by
  unfold bits_Add64.f at h
  split at h
  · rename_i hh
    obtain ⟨⟨x0, x1⟩, ⟨y0, y1⟩, c0, c1⟩ := hh
    simp only [Option.some.injEq, Prod.mk.injEq] at h
    obtain ⟨rfl, rfl⟩ := h
    obtain ⟨x, rfl⟩ := Int.eq_ofNat_of_zero_le x0
    obtain ⟨y, rfl⟩ := Int.eq_ofNat_of_zero_le y0
    obtain ⟨c, rfl⟩ := Int.eq_ofNat_of_zero_le c0
    refine (add64_nat x y c (by omega) (by omega) (by omega) w).trans ?_
    congr 5 <;> omega
  · cases h

/-- Without noughts at the end. -/
def trimL (l : List Int) : List Int := (l.reverse.dropWhile (· == 0)).reverse
def nat_trim.f (l : List Int) : Option (List Int) := some (trimL l)
theorem rd_lt {l : List Int} {k : Nat} (h : k < l.length) : rd l (k : Int) = l[k] := by simp [rd, List.getD, List.getElem?_eq_getElem h]
theorem trimL_zero {l : List Int} {k : Nat} (h : k < l.length) (h0 : rd l (k : Int) = 0) : trimL (l.take (k + 1)) = trimL (l.take k) := by
  rw [rd_lt h] at h0
  rw [List.take_succ_eq_append_getElem h, trimL, List.reverse_append, List.reverse_singleton, List.singleton_append, List.dropWhile_cons, h0]
  rfl
theorem trimL_ne {l : List Int} {k : Nat} (h : k < l.length) (h0 : rd l (k : Int) ≠ 0) : trimL (l.take (k + 1)) = l.take (k + 1) := by
  rw [rd_lt h] at h0
  rw [List.take_succ_eq_append_getElem h, trimL, List.reverse_append, List.reverse_singleton, List.singleton_append, List.dropWhile_cons, if_neg (by simpa using h0), List.reverse_cons, List.reverse_reverse]
theorem info28N : (Tryd.prog.info? 28).map (fun i => (i.zero, i.size, i.bytes)) = some (some (.int .u64 0), 1, 8) := by kernel_rfl
theorem cut_to3 {P : Program} (t e : TypeId) {i : TypeInfo} (ht : P.underlying t = some (.slice e)) (hi : P.info? e = some i) (A : Option Addr) (n c : Nat) (j : Int) (h0 : 0 ≤ j) (hm : j ≤ n) (hc : n ≤ c) :
    ∀ W : World, (Instr.slice t (.slice A n c) none (some (.int .i64 j)) (some (.int .i64 j))).run P W = .ok (.slice A j.toNat j.toNat) W := by
  intro W
  have hel : P.elem t = e := by simp [Program.elem, ht]
  have hu : P.underlying t = some (.slice (P.elem t)) := by rw [hel]; exact ht
  have ha : (A.map fun x => x.add 0) = A := by cases A <;> simp [Addr.add]
  rw [run_slice_hm W t A n c hu .i64 .i64 j j h0 (by omega) (by omega), hel]
  simp [sizeOf, typeInfo, hi, sliced, Result.andThen, ha]
set_option maxHeartbeats 4000000 in
set_option maxRecDepth 100000 in
theorem nat_trim.calls (P0_ : Nat → Prop) (A0 : Option Addr) (c0 : Nat) (l0 : List Int) (r : List Int) (w : World) (hs0 : Kd.V (Kd.int .u64) 28 w w.heap.size (fun k_ => P0_ k_) (.slice A0 l0.length c0) l0) (h : nat_trim.f l0 = some r) :
    Calls Tryd.prog 64 #[.slice A0 l0.length c0] w fun e w' => ∃ v0_ : Value, e = .returned (v0_) ∧ Kd.V (Kd.int .u64) 28 w' w.heap.size (fun k_ => (P0_ k_ ∨ w.heap.size ≤ k_)) v0_ r ∧ Below w.heap.size w w' := by
  obtain rfl := Option.some.inj h
  clear h
  have HO := Aside0.mk hs0
  have HL := Aside0.mk (show (l0.length : Int) ≤ 9223372036854775807 from (by have := Kd.F_max (Kd.V_F hs0); omega))
  have HB := Aside0.mk (Below.refl w.heap.size w)
  clear hs0
  go_enter Tryd.func64, Tryd.ntmps64
  go_wp2
  go_loopg [3] l0.length (fun kq v3 w' => ∃ x : Int, v3 = .int .i64 x ∧ Aside0 (x = (kq : Int)) ∧ Aside0 (kq ≤ l0.length) ∧ Aside0 (trimL (l0.take kq) = trimL l0) ∧ Aside0 (Kd.V (Kd.int .u64) 28 w' w.heap.size (fun k_ => P0_ k_) (.slice A0 l0.length c0) l0) ∧ Aside0 (Below w.heap.size w w'))
  case atStart => exact ⟨_, rfl, ⟨rfl⟩, ⟨Nat.le_refl _⟩, ⟨by rw [List.take_length]⟩, HO, HB⟩
  case round =>
    clear HO HB
    obtain ⟨x, rfl, HX, HK, HT, HO, HB⟩ := hrel
    cases gk with
    | zero =>
      obtain rfl := HX.out
      clear HX
      have c3b0 : decide ((0 : Int) < ((0 : Nat) : Int)) = false := rfl
      obtain ⟨i0, hi0, _, hsz, _⟩ := info_parts info28N
      have hcut := cut_to3 (P := Tryd.prog) 23 28 Tryd.underlying23 hi0 A0 l0.length c0 ((0 : Nat) : Int) (by omega) (by omega) (Kd.V_reads' HO.out).2.1
      have HR : Aside0 (trimL l0 = []) := ⟨by rw [← HT.out]; rfl⟩
      clear hi0 hsz
      go_wp2
      go_ret
      refine ⟨_, rfl, ?_, HB.out⟩
      rw [HR.out]
      exact Kd.V_mono (Kd.V_mk (xs := []) (c := 0) (Nat.le_refl _) (Kd.F_take (m := 0) (Kd.V_F HO.out) (Nat.zero_le _))) (fun _ hk => .inl hk)
    | succ k1 =>
      have hlt : k1 < l0.length := HK.out
      have hx := HX.out
      have c3b0 : decide ((0 : Int) < x) = true := decide_eq_true (by omega)
      obtain ⟨j, hj⟩ : ∃ j : Int, j = (k1 : Int) := ⟨_, rfl⟩
      have hji4w : IntKind.i64.wrap (x - 1) = j := by
        have := HL.out
        rw [i64_w]
        unfold wrap64
        omega
      have p6 : 0 ≤ j := by omega
      have q6 : j < (l0.length : Int) := by omega
      obtain ⟨ad6, e6, hx6⟩ := Kd.at_int (Kd.V_reads' HO.out).2.2 j p6 q6
      cases e6
      have c5b0 : decide (0 ≤ j) = true := decide_eq_true p6
      have c6b0 : decide (j < (l0.length : Int)) = true := decide_eq_true q6
      have HJ := Aside0.mk hj
      by_cases c7 : rd l0 j = 0
      · have c7b0 : (rd l0 j == 0) = true := beq_iff_eq.mpr c7
        have HT' := Aside0.mk ((trimL_zero hlt (hj ▸ c7)).symm.trans HT.out)
        have HK' := Aside0.mk (Nat.le_of_lt hlt)
        replace p6 := eq_true p6
        replace q6 := eq_true q6
        clear c7 HT HK hj hx HX
        go_wp2
        go_roundg k1
        case measure => omega
        case rel => exact ⟨_, rfl, HJ, HK', HT', HO, HB⟩
      · have c7b0 : (rd l0 j == 0) = false := beq_eq_false_iff_ne.mpr c7
        have HR : Aside0 (trimL l0 = l0.take (k1 + 1)) := ⟨by rw [← HT.out, trimL_ne hlt (hj ▸ c7)]⟩
        obtain ⟨i0, hi0, _, hsz, _⟩ := info_parts info28N
        have hcut := cut_to3 (P := Tryd.prog) 23 28 Tryd.underlying23 hi0 (some ad6) l0.length c0 x (by omega) (by omega) (Kd.V_reads' HO.out).2.1
        have hy : (l0.take (k1 + 1)).length = x.toNat := by rw [List.length_take]; omega
        rw [← hy] at hcut
        have c8 : 0 ≤ x := by omega
        have c9 : x ≤ (l0.length : Int) := by omega
        have HV := Aside0.mk (Kd.V_mono (ok' := fun k_ => P0_ k_ ∨ w.heap.size ≤ k_) (Kd.V_mk (d := Kd.int .u64) (e := 28) (base := w.heap.size) (xs := l0.take (k1 + 1)) (c := (l0.take (k1 + 1)).length) (Nat.le_refl _) (Kd.F_take (m := k1 + 1) (Kd.V_F HO.out) hlt)) (fun _ hk => .inl hk))
        replace p6 := eq_true p6
        replace q6 := eq_true q6
        replace c8 := eq_true c8
        replace c9 := eq_true c9
        clear hi0 hsz c7 HT HK hy HO hj hx HX
        go_wp2
        go_ret
        exact ⟨_, rfl, by rw [HR.out]; have hv := HV.out; rw [List.length_take] at hv; exact hv, HB.out⟩

/-- A copy; of a nil slice nil. A row longer than 2^40 words is not told. -/
def api_Nat_uint64.f (l : List Int) : Option (List Int) := if l.length ≤ 1099511627776 then some l else none
set_option maxHeartbeats 4000000 in
set_option maxRecDepth 100000 in
theorem api_Nat_uint64.calls (P0_ : Nat → Prop) (A0 : Option Addr) (c0 : Nat) (l0 : List Int) (r : List Int) (w : World) (hs0 : Kd.V (Kd.int .u64) 28 w w.heap.size (fun k_ => P0_ k_) (.slice A0 l0.length c0) l0) (h : api_Nat_uint64.f l0 = some r) :
    Calls Tryd.prog 86 #[.slice A0 l0.length c0] w fun e w' => ∃ v0_ : Value, e = .returned (v0_) ∧ Kd.V (Kd.int .u64) 28 w' w.heap.size (fun k_ => (P0_ k_ ∨ w.heap.size ≤ k_)) v0_ r ∧ Below w.heap.size w w' := by
  unfold api_Nat_uint64.f at h
  by_cases hle : l0.length ≤ 1099511627776
  case neg => rw [if_neg hle] at h; cases h
  rw [if_pos hle] at h
  obtain rfl := Option.some.inj h
  clear h
  have q22 : ∀ (w : World) (a : Option Addr) (n c n' c' : Nat), (binOp .eql 23 (.slice a n c) (.slice none n' c')).run Tryd.prog w = .ok (.bool a.isNone) w := fun w a n c n' c' => Go.Lib.run_eql_slice_nil w _ _ a n c n' c' Tryd.underlying23
  have HO := Aside0.mk hs0
  have HL := Aside0.mk hle
  clear hs0 hle
  cases A0 with
  | none =>
    obtain rfl : l0 = [] := by
      rcases l0 with _ | ⟨x, l⟩
      · rfl
      · obtain ⟨ad, e, _⟩ := Kd.at_int (Kd.V_reads' HO.out).2.2 0 (Int.le_refl _) (by simp)
        cases e
    go_enter Tryd.func86, Tryd.ntmps86
    go_wp2
    go_ret
    exact ⟨_, rfl, Kd.V_nil _ _ _ _ _, Below.refl _ _⟩
  | some ad =>
    have HR := Aside0.mk (Kd.reads_of_C (enc := Value.int .u64) (d := (0 : Int)) (h1 := fun _ => rfl) (Kd.V_reads' HO.out).2.2)
    go_enter Tryd.func86, Tryd.ntmps86
    go_wp2_with (at_builtin; refine print_append_row_of (w0 := w) (Value.int .u64) (0 : Int) w.heap.size rfl _ _ 23 28 (.int .u64 0) 8 rfl Tryd.underlying23 info28N (by decide) (by decide) (fun _ => rfl) _ ([] : List Int) l0 (some ad) l0.length c0 rfl rfl (World.ownsRow_made w #[] 0 (Nat.le_refl _) (Nat.zero_le _) rfl) (HR.out.allocS _) (below_alloc (Below.refl _ _) _) (by simp) (by have := HL.out; simp; omega) ?_)
    intro v1 w1 hown hb hg hat
    have hok : ∀ k, v1.ownBlock = some k → P0_ k ∨ w.heap.size ≤ k := by
      intro k hk
      rcases hat with h | ⟨b, h, hb'⟩
      · rw [h] at hk; simp [Value.ownBlock] at hk; exact .inr (by omega)
      · rw [h] at hk; obtain rfl := Option.some.inj hk; exact .inr (by omega)
    have HV := Aside0.mk (Kd.R_V (base' := w.heap.size) (Kd.R_of_own (enc := Value.int .u64) (h1 := fun _ => rfl) (base := w.heap.size) (ok := fun k_ => P0_ k_ ∨ w.heap.size ≤ k_) hown hok))
    have HB := Aside0.mk hb
    clear hown hb hg hat hok
    go_wp2
    go_ret
    exact ⟨_, rfl, HV.out, HB.out⟩

end Go.Proofs.YtmcodbgbjjldnaaDoor.Pr
