/- Contracts by hand: posit.must, where it does not end the call; math/bits.TrailingZeros64. -/
import Derived.Test.YtmcodbgbjjldnaaDoorGivN
import Derived.Lib.Walk
import Derived.Lib.BitFns
set_option linter.unusedVariables false
set_option linter.unusedSimpArgs false
namespace Go.Proofs.YtmcodbgbjjldnaaDoor.Pr
open Go.RowKit Go.Proofs.YtmcodbgbjjldnaaDoorW.PrintWords Go.Proofs.YtmcodbgbjjldnaaDoorW.PrintLast Go.Proofs.YtmcodbgbjjldnaaDoorW.PrintMore

def posit_must.f (a0 : Bool) (_a1 : Int) : Option Unit := if a0 = true then some () else none
theorem posit_must.calls (a0 : Bool) (a1 : Int) (w : World) (h : posit_must.f a0 a1 = some ()) :
    Calls Tryd.prog 112 #[.bool a0, .int .i64 a1] w fun e w' => e = .returned (.tuple #[]) ∧ Below w.heap.size w w' := by
  unfold posit_must.f at h
  cases a0 with
  | false => simp at h
  | true =>
    go_enter Tryd.func112, Tryd.ntmps112
    go_wp2
    go_end0
    exact ⟨rfl, Below.refl _ _⟩

def bits_Len64.f (a0 : Int) : Option Int := if Wd a0 then some (Lib.bitLen a0.toNat : Int) else none
theorem tab8 (i : Int) (h0 : 0 ≤ i) (h1 : i ≤ 255) : ∀ h : i.toNat < Lib.len8tab.size, ((Lib.len8tab[i.toNat]'h).toNat : Int) = (Lib.bitLen i.toNat : Int) := fun h => by
  rw [← Lib.len8_of i h0 h1]
  simp [Lib.len8, h]
theorem wr2 (c b : Int) (hb : 0 ≤ b) (hb1 : b ≤ 8) (hc : 0 ≤ c) (hc1 : c ≤ 56) : wrap64 (c + wrap64 b) = c + b := by
  have h : wrap64 b = b := by unfold wrap64; omega
  rw [h]
  unfold wrap64
  omega
theorem fin8 (x : Int) (c : Nat) (d : Nat) (y : Int) (h0 : 0 ≤ x) (hy0 : 0 ≤ y) (hy1 : y ≤ 255) (hc : c ≤ 56) (e : y.toNat = x.toNat / d) (s : Lib.bitLen x.toNat = c + Lib.bitLen (x.toNat / d)) :
    wrap64 ((c : Int) + wrap64 (Lib.bitLen y.toNat : Int)) = (Lib.bitLen x.toNat : Int) := by
  have l := Lib.bitLen_le8' y hy0 hy1
  rw [wr2 _ _ (by omega) (by omega) (by omega) (by omega), s, e]
  omega
theorem fin0 (x : Int) (h0 : 0 ≤ x) (h1 : x ≤ 255) : wrap64 (wrap64 (Lib.bitLen x.toNat : Int)) = (Lib.bitLen x.toNat : Int) := by
  have l := Lib.bitLen_le8' x h0 h1
  have h : wrap64 (Lib.bitLen x.toNat : Int) = (Lib.bitLen x.toNat : Int) := by unfold wrap64; omega
  rw [h, h]
set_option maxHeartbeats 4000000 in
set_option maxRecDepth 100000 in
theorem len64_any (x : Int) (w : World) (h0 : 0 ≤ x) (h1 : x ≤ 18446744073709551615) :
    Calls Tryd.prog 83 #[.int .u64 x] w fun e w' => e = .returned (.int .i64 (Lib.bitLen x.toNat)) ∧ w' = w := by
  have hs := Lib.len8tab_size
  go_enter Tryd.func83, Tryd.ntmps83
  go_wp2
  all_goals (go_ret; refine ⟨congrArg Ending.returned (congrArg (Value.int IntKind.i64) ?_), rfl⟩)
  all_goals first
    | (rw [tab8 (x / 4294967296 / 65536 / 256) (by omega) (by omega)]; exact fin8 x 56 72057594037927936 (x / 4294967296 / 65536 / 256) h0 (by omega) (by omega) (by omega) (by omega) (Lib.bitLen_shift56 x.toNat (by omega) (by omega)))
    | (rw [tab8 (x / 4294967296 / 65536) (by omega) (by omega)]; exact fin8 x 48 281474976710656 (x / 4294967296 / 65536) h0 (by omega) (by omega) (by omega) (by omega) (Lib.bitLen_shift48 x.toNat (by omega) (by omega)))
    | (rw [tab8 (x / 4294967296 / 256) (by omega) (by omega)]; exact fin8 x 40 1099511627776 (x / 4294967296 / 256) h0 (by omega) (by omega) (by omega) (by omega) (Lib.bitLen_shift40 x.toNat (by omega) (by omega)))
    | (rw [tab8 (x / 4294967296) (by omega) (by omega)]; exact fin8 x 32 4294967296 (x / 4294967296) h0 (by omega) (by omega) (by omega) (by omega) (Lib.bitLen_shift32 x.toNat (by omega) (by omega)))
    | (rw [tab8 (x / 65536 / 256) (by omega) (by omega)]; exact fin8 x 24 16777216 (x / 65536 / 256) h0 (by omega) (by omega) (by omega) (by omega) (Lib.bitLen_shift24 x.toNat (by omega) (by omega)))
    | (rw [tab8 (x / 65536) (by omega) (by omega)]; exact fin8 x 16 65536 (x / 65536) h0 (by omega) (by omega) (by omega) (by omega) (Lib.bitLen_shift16 x.toNat (by omega) (by omega)))
    | (rw [tab8 (x / 256) (by omega) (by omega)]; exact fin8 x 8 256 (x / 256) h0 (by omega) (by omega) (by omega) (by omega) (Lib.bitLen_shift8 x.toNat (by omega) (by omega)))
    | (rw [tab8 x (by omega) (by omega)]; exact fin0 x h0 (by omega))
theorem bits_Len64.calls (a0 : Int) (r : Int) (w : World) (h : bits_Len64.f a0 = some r) :
    Calls Tryd.prog 83 #[.int .u64 a0] w fun e w' => e = .returned (.int .i64 r) ∧ Drawn0 w w' := by
  unfold bits_Len64.f at h
  split at h
  · rename_i hw
    obtain rfl := Option.some.inj h
    refine (len64_any a0 w hw.1 (by have := hw.2; omega)).mono fun e w' hh => ?_
    obtain ⟨rfl, rfl⟩ := hh
    exact ⟨rfl, Drawn0.refl _⟩
  · cases h
def bits_LeadingZeros64.f (a0 : Int) : Option Int := if Wd a0 then some (64 - (Lib.bitLen a0.toNat : Int)) else none
theorem bits_LeadingZeros64.calls (a0 : Int) (r : Int) (w : World) (h : bits_LeadingZeros64.f a0 = some r) :
    Calls Tryd.prog 113 #[.int .u64 a0] w fun e w' => e = .returned (.int .i64 r) ∧ Drawn0 w w' := by
  unfold bits_LeadingZeros64.f at h
  split at h
  · rename_i hw
    obtain rfl := Option.some.inj h
    have h0 := hw.1
    have h1 : a0 ≤ 18446744073709551615 := by have := hw.2; omega
    clear hw
    have l := Lib.bitLen_le a0.toNat 64 (by omega) (by omega)
    have e8 : (64 - (Lib.bitLen a0.toNat : Int) + 9223372036854775808) % 18446744073709551616 - 9223372036854775808 = 64 - (Lib.bitLen a0.toNat : Int) := by omega
    have H := Aside0.mk e8
    have H0 := Aside0.mk h0
    have H1 := Aside0.mk h1
    clear e8 h0 h1
    generalize hb : Lib.bitLen a0.toNat = b at l H ⊢
    have HB := Aside0.mk hb
    clear hb
    go_enter Tryd.func113, Tryd.ntmps113
    go_wp2_with (go_at_call 83; refine (len64_any a0 _ H0.out H1.out).mono ?_; rw [HB.out]; rintro e w' ⟨rfl, rfl⟩)
    go_ret
    exact ⟨by first | rfl | (rw [← H.out]; rfl), Drawn0.refl _⟩
  · cases h

def bits_TrailingZeros64.f (a0 : Int) : Option Int := if Wd a0 then some (Lib.ctz 64 a0.toNat) else none
set_option maxHeartbeats 1000000 in
theorem tz64_core (x k idx : Nat) (w : World) (hx0 : ((x : Int) == 0) = false)
    (key : IntKind.u64.wrap (bits BinOp.and IntKind.u64 (x : Int) (IntKind.u64.wrap (-(x : Int))) * 285870213051353865) / 288230376151711744 = (idx : Int))
    (hi : idx < 64) (hk : k < 64) (hcell : w.cell? ⟨1, idx, none⟩ = some (.int .u8 k)) :
    Calls Tryd.prog 106 #[.int .u64 x] w fun e w' => e = .returned (.int .i64 k) ∧ w' = w := by
  go_enter Tryd.func106, Tryd.ntmps106
  go_wp2_with (simp only [key])
  go_ret
  exact ⟨rfl, rfl⟩
theorem tz64_zero (w : World) :
    Calls Tryd.prog 106 #[.int .u64 0] w fun e w' => e = .returned (.int .i64 64) ∧ w' = w := by
  go_enter Tryd.func106, Tryd.ntmps106
  go_wp2
  go_ret
  exact ⟨rfl, rfl⟩
theorem tz64_key (x a : Nat) (hx : x < 18446744073709551616) (hx0 : x ≠ 0) (hlow : x &&& (18446744073709551616 - x) = a) :
    IntKind.u64.wrap (bits BinOp.and IntKind.u64 (x : Int) (IntKind.u64.wrap (-(x : Int))) * 285870213051353865) / 288230376151711744 = ((a * 285870213051353865 % 18446744073709551616 / 288230376151711744 : Nat) : Int) := by
  have e1 : IntKind.u64.wrap (-(x : Int)) = ((18446744073709551616 - x : Nat) : Int) := by rw [IntKind.wrap_u64]; omega
  rw [e1, bits_and_u64_nat x _ hx (by omega), hlow, IntKind.wrap_u64]
  omega
theorem bits_TrailingZeros64.calls (a0 : Int) (r : Int) (w : World) (hG : Glob w) (h : bits_TrailingZeros64.f a0 = some r) :
    Calls Tryd.prog 106 #[.int .u64 a0] w fun e w' => e = .returned (.int .i64 r) ∧ Below w.heap.size w w' := by
  unfold bits_TrailingZeros64.f at h
  split at h
  · rename_i hw
    obtain ⟨h0, h1⟩ := hw
    obtain ⟨x, rfl⟩ := Int.eq_ofNat_of_zero_le h0
    rw [Int.toNat_natCast] at h
    obtain rfl := Option.some.inj h
    have hx : x < 18446744073709551616 := by omega
    have fin : Calls Tryd.prog 106 #[.int .u64 x] w fun e w' => e = .returned (.int .i64 (Lib.ctz 64 x)) ∧ w' = w := by
      by_cases hx0 : x = 0
      · subst hx0
        exact tz64_zero w
      · obtain ⟨hlow, hk⟩ := Lib.lowest_bit 64 x hx0 hx
        obtain ⟨hi, htab⟩ := Lib.deBruijn64_at _ hk
        have hcell := hG.tz _ hi
        rw [htab] at hcell
        exact tz64_core x _ _ w (by simp; omega) (tz64_key x _ hx hx0 hlow) hi hk hcell
    refine fin.mono fun e w' hh => ?_
    obtain ⟨rfl, rfl⟩ := hh
    exact ⟨rfl, Below.refl _ _⟩
  · cases h

end Go.Proofs.YtmcodbgbjjldnaaDoor.Pr
