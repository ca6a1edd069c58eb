/- The plain laws of nat: what the printed functions compute. -/
import Derived.Test.YtmcodbgbjjldnaaDoorPrx2
set_option linter.unusedVariables false
set_option linter.unusedSimpArgs false
namespace Go.Proofs.YtmcodbgbjjldnaaDoor.Pr
open Go.RowKit Go.Proofs.YtmcodbgbjjldnaaDoorW.PrintWords Go.Proofs.YtmcodbgbjjldnaaDoorW.PrintLast Go.Proofs.YtmcodbgbjjldnaaDoorW.PrintMore

/-- Told with fuel enough. -/
def Ev {α : Type} (f : Nat → Option α) (r : α) : Prop := ∃ K, ∀ k, K ≤ k → f k = some r
theorem Ev.of {α : Type} {f : Nat → Option α} {r : α} (h : ∀ k, f k = some r) : Ev f r := ⟨0, fun k _ => h k⟩
theorem Ev.bind {α β : Type} {f : Nat → Option α} {g : Nat → α → Option β} {a : α} {r : β} (h : Ev f a) (hg : Ev (fun k => g k a) r) : Ev (fun k => (f k).bind (g k)) r := by
  obtain ⟨K, h⟩ := h
  obtain ⟨K', hg⟩ := hg
  exact ⟨max K K', fun k hk => by show (f k).bind (g k) = some r; rw [h k (by omega)]; exact hg k (by omega)⟩
theorem Ev.succ {α : Type} {f : Nat → Option α} {r : α} (h : Ev (fun k => f (k + 1)) r) : Ev f r := by
  obtain ⟨K, h⟩ := h
  exact ⟨K + 1, fun k hk => by obtain ⟨j, rfl⟩ : ∃ j, k = j + 1 := ⟨k - 1, by omega⟩; exact h j (by omega)⟩
theorem Ev.congr {α : Type} {f g : Nat → Option α} {r : α} (h : Ev f r) (e : ∀ k, g k = f k) : Ev g r := by
  obtain ⟨K, h⟩ := h
  exact ⟨K, fun k hk => (e k).trans (h k hk)⟩
theorem w64 {x : Int} (h0 : -9223372036854775808 ≤ x) (h1 : x < 9223372036854775808) : wrap64 x = x := by unfold wrap64; omega
theorem wu64 {x : Int} (h0 : 0 ≤ x) (h1 : x < 18446744073709551616) : IntKind.u64.wrap x = x := by
  have : IntKind.u64.wrap x = x % 18446744073709551616 := by first | rfl | simp [IntKind.wrap]
  rw [this]
  exact Int.emod_eq_of_lt h0 h1

def Ws (l : List Int) : Prop := ∀ x ∈ l, 0 ≤ x ∧ x < 18446744073709551616
def val : List Int → Int
  | [] => 0
  | x :: l => x + 18446744073709551616 * val l
/-- Without a nought at its end. -/
def Tr (l : List Int) : Prop := ∀ x, l.getLast? = some x → x ≠ 0
/-- Less, the same, greater. -/
def sg (a b : Int) : Int := if a < b then -1 else if a = b then 0 else 1

def pw (n : Nat) : Int := 18446744073709551616 ^ n
theorem pw_zero : pw 0 = 1 := rfl
theorem pw_eq (n : Nat) : pw n = 18446744073709551616 ^ n := rfl
theorem pw_pos (n : Nat) : 0 < pw n := Int.pow_pos (by decide)
theorem pw_succ (n : Nat) : pw (n + 1) = pw n * 18446744073709551616 := Int.pow_succ _ _
theorem pw_add (m n : Nat) : pw (m + n) = pw m * pw n := Int.pow_add _ _ _
theorem pw_le {m n : Nat} (h : m ≤ n) : pw m ≤ pw n := by
  obtain ⟨d, rfl⟩ : ∃ d, n = m + d := ⟨n - m, by omega⟩
  rw [pw_add]
  have h4 : pw m * 1 ≤ pw m * pw d := Int.mul_le_mul_of_nonneg_left (pw_pos d) (Int.le_of_lt (pw_pos _))
  omega
attribute [irreducible] pw

theorem Ws.nil : Ws [] := fun _ h => by cases h
theorem Ws.cons {x : Int} {l : List Int} (h : Ws (x :: l)) : (0 ≤ x ∧ x < 18446744073709551616) ∧ Ws l := ⟨h x (by simp), fun y hy => h y (by simp [hy])⟩
theorem Ws.mk_cons {x : Int} {l : List Int} (h0 : 0 ≤ x) (h1 : x < 18446744073709551616) (h : Ws l) : Ws (x :: l) := fun y hy => by
  rcases List.mem_cons.1 hy with rfl | hy
  · exact ⟨h0, h1⟩
  · exact h y hy
theorem Ws.append {a b : List Int} (ha : Ws a) (hb : Ws b) : Ws (a ++ b) := fun x hx => (List.mem_append.1 hx).elim (ha x) (hb x)
theorem Ws.take {a : List Int} (ha : Ws a) (n : Nat) : Ws (a.take n) := fun x hx => ha x (List.mem_of_mem_take hx)
theorem Ws.set {a : List Int} (ha : Ws a) (i : Nat) {v : Int} (h0 : 0 ≤ v) (h1 : v < 18446744073709551616) : Ws (a.set i v) := fun x hx => by
  rcases List.mem_or_eq_of_mem_set hx with h | rfl
  · exact ha x h
  · exact ⟨h0, h1⟩
theorem Ws.rep (n : Nat) : Ws (List.replicate n 0) := fun x hx => by
  obtain ⟨_, rfl⟩ := List.mem_replicate.1 hx
  decide
theorem Ws.rd {a : List Int} (ha : Ws a) (i : Int) : 0 ≤ rd a i ∧ rd a i < 18446744073709551616 := by
  unfold Go.Proofs.YtmcodbgbjjldnaaDoorW.PrintWords.rd
  rw [List.getD]
  cases h : a[i.toNat]? with
  | none => decide
  | some x => exact ha x (List.mem_of_getElem? h)

theorem val_nonneg : ∀ {l : List Int}, Ws l → 0 ≤ val l
  | [], _ => by decide
  | x :: l, h => by
    have := val_nonneg h.cons.2
    have := h.cons.1
    simp only [val]
    omega
theorem val_append : ∀ a b : List Int, val (a ++ b) = val a + pw a.length * val b
  | [], b => by simp [val, pw_zero]
  | x :: a, b => by
    simp only [List.cons_append, val, val_append a b, List.length_cons, pw_succ]
    grind
theorem val_lt : ∀ {l : List Int}, Ws l → val l < pw l.length
  | [], _ => by simp [val, pw_zero]
  | x :: l, h => by
    have h1 := val_lt h.cons.2
    have h2 := h.cons.1
    simp only [val, List.length_cons, pw_succ]
    show x + 18446744073709551616 * val l < pw l.length * 18446744073709551616
    omega
theorem val_concat (l : List Int) (x : Int) : val (l ++ [x]) = val l + pw l.length * x := by
  rw [val_append]
  simp [val]
theorem val_take_succ {l : List Int} {k : Nat} (h : k < l.length) : val (l.take (k + 1)) = val (l.take k) + pw k * l[k] := by
  rw [List.take_succ_eq_append_getElem h, val_concat, List.length_take, Nat.min_eq_left (by omega)]
theorem trimL_concat (l : List Int) (x : Int) : trimL (l ++ [x]) = if x = 0 then trimL l else l ++ [x] := by
  unfold trimL
  rw [List.reverse_append, List.reverse_singleton, List.singleton_append, List.dropWhile_cons]
  by_cases h : x = 0
  · simp [h]
  · simp [h]
theorem list_concat (l : List Int) : l = [] ∨ ∃ l' x, l = l' ++ [x] := by
  rcases List.eq_nil_or_concat l with h | ⟨l', x, h⟩
  · exact .inl h
  · exact .inr ⟨l', x, by simpa using h⟩
theorem trimL_all (n : Nat) : ∀ l : List Int, l.length = n → val (trimL l) = val l ∧ Tr (trimL l) ∧ (Ws l → Ws (trimL l)) ∧ (trimL l).length ≤ l.length := by
  induction n with
  | zero =>
    intro l h
    obtain rfl := List.eq_nil_of_length_eq_zero h
    exact ⟨rfl, fun x h => by simp [trimL] at h, fun h => h, Nat.le_refl _⟩
  | succ n ih =>
    intro l h
    rcases list_concat l with rfl | ⟨l', x, rfl⟩
    · simp at h
    · have hl : l'.length = n := by simpa using h
      rw [trimL_concat]
      by_cases hx : x = 0
      · rw [if_pos hx]
        obtain ⟨h1, h2, h3, h4⟩ := ih l' hl
        refine ⟨?_, h2, fun hw => h3 (fun y hy => hw y (by simp [hy])), by simp; omega⟩
        rw [h1, val_concat, hx]
        simp
      · rw [if_neg hx]
        exact ⟨rfl, fun y hy => by simp at hy; exact hy ▸ hx, fun h => h, Nat.le_refl _⟩
theorem val_trim (l : List Int) : val (trimL l) = val l := (trimL_all _ l rfl).1
theorem Tr.trim (l : List Int) : Tr (trimL l) := (trimL_all _ l rfl).2.1
theorem Ws.trim {l : List Int} (h : Ws l) : Ws (trimL l) := (trimL_all _ l rfl).2.2.1 h
theorem len_trim (l : List Int) : (trimL l).length ≤ l.length := (trimL_all _ l rfl).2.2.2
theorem Tr.ge {l : List Int} (h : Tr l) (hw : Ws l) (hne : l ≠ []) : pw (l.length - 1) ≤ val l := by
  rcases list_concat l with rfl | ⟨l', x, rfl⟩
  · exact absurd rfl hne
  · have hx := h x (by simp)
    have h1 := hw x (by simp)
    have h2 : 0 ≤ val l' := val_nonneg fun y hy => hw y (by simp [hy])
    rw [val_concat]
    have h3 : pw l'.length * 1 ≤ pw l'.length * x := Int.mul_le_mul_of_nonneg_left (by omega) (Int.le_of_lt (pw_pos _))
    have h4 : (l' ++ [x]).length - 1 = l'.length := by simp
    rw [h4]
    omega
theorem Tr.pos {l : List Int} (h : Tr l) (hw : Ws l) (hne : l ≠ []) : 0 < val l := Int.lt_of_lt_of_le (pw_pos _) (h.ge hw hne)
theorem val_set : ∀ {l : List Int} {i : Nat} (v : Int), i < l.length → val (l.set i v) = val l + pw i * (v - rd l (i : Int))
  | x :: l, 0, v, _ => by simp [val, rd, pw_zero]; omega
  | x :: l, i + 1, v, h => by
    have h' : i < l.length := by simpa using h
    have ih := val_set v h'
    have e : rd (x :: l) ((i + 1 : Nat) : Int) = rd l (i : Int) := by rw [rd_lt h, rd_lt h']; rfl
    rw [List.set_cons_succ, e]
    simp only [val, ih, pw_succ]
    grind

theorem cmpu (a b : Int) : cmp_Compare_uint64.f a b = some (sg a b) := by
  unfold cmp_Compare_uint64.f cmp_isNaN_uint64.f sg
  by_cases h : a < b
  · simp [h]
  · by_cases h2 : a = b
    · simp [h2]
    · simp [h, h2, show a > b by omega]
theorem cmpi (a b : Int) : cmp_Compare_int.f a b = some (sg a b) := by
  unfold cmp_Compare_int.f cmp_isNaN_int.f sg
  by_cases h : a < b
  · simp [h]
  · by_cases h2 : a = b
    · simp [h2]
    · simp [h, h2, show a > b by omega]
theorem Cmp_l0 {a b : List Int} (ha : Ws a) (hb : Ws b) (he : a.length = b.length) (hL : a.length ≤ 4611686018427387904) : ∀ j : Nat, j ≤ a.length → Ev (fun k => nat_Cmp.l0 k a b ((j : Int) - 1)) (sg (val (a.take j)) (val (b.take j)))
  | 0, _ => by
    refine Ev.succ (Ev.of fun k => ?_)
    simp [nat_Cmp.l0, sg]
  | j + 1, h => by
    have hj : j < a.length := h
    have hj' : j < b.length := by omega
    have ih := Cmp_l0 ha hb he hL j (by omega)
    have e0 : (((j + 1 : Nat) : Int) - 1) = (j : Int) := by omega
    rw [e0, val_take_succ hj, val_take_succ hj']
    refine Ev.succ ?_
    have l1 := val_lt (ha.take j)
    have l2 := val_lt (hb.take j)
    have n1 := val_nonneg (ha.take j)
    have n2 := val_nonneg (hb.take j)
    rw [List.length_take, Nat.min_eq_left (by omega)] at l1 l2
    have ew : wrap64 ((j : Int) - 1) = (j : Int) - 1 := w64 (by omega) (by omega)
    have hp := pw_pos j
    by_cases hc : a[j] = b[j]
    · have hs : sg (val (a.take j) + pw j * a[j]) (val (b.take j) + pw j * b[j]) = sg (val (a.take j)) (val (b.take j)) := by
        rw [hc]; unfold sg; split <;> split <;> (repeat' split) <;> first | rfl | omega
      rw [hs]
      refine ih.congr fun k => ?_
      simp only [nat_Cmp.l0, rd_lt hj, rd_lt hj', cmpu, Option.bind_some, ew]
      rw [if_pos (by omega), if_pos (by omega), if_pos (by omega), if_pos (by omega), if_pos (by unfold sg; simp [hc])]
    · refine Ev.of fun k => ?_
      simp only [nat_Cmp.l0, rd_lt hj, rd_lt hj', cmpu, Option.bind_some, ew]
      rw [if_pos (by omega), if_pos (by omega), if_pos (by omega), if_pos (by omega)]
      rcases Int.lt_or_gt_of_ne hc with h1 | h1
      · have h2 : pw j * (a[j] + 1) ≤ pw j * b[j] := Int.mul_le_mul_of_nonneg_left (by omega) (Int.le_of_lt hp)
        rw [Int.mul_add] at h2
        have e1 : sg a[j] b[j] = -1 := by unfold sg; rw [if_pos h1]
        have e2 : sg (val (a.take j) + pw j * a[j]) (val (b.take j) + pw j * b[j]) = -1 := by unfold sg; rw [if_pos (by omega)]
        rw [e1, e2]; rfl
      · have h2 : pw j * (b[j] + 1) ≤ pw j * a[j] := Int.mul_le_mul_of_nonneg_left (by omega) (Int.le_of_lt hp)
        rw [Int.mul_add] at h2
        have e1 : sg a[j] b[j] = 1 := by unfold sg; rw [if_neg (by omega), if_neg (by omega)]
        have e2 : sg (val (a.take j) + pw j * a[j]) (val (b.take j) + pw j * b[j]) = 1 := by unfold sg; rw [if_neg (by omega), if_neg (by omega)]
        rw [e1, e2]; rfl
theorem nat_Cmp_spec {a b : List Int} (ha : Ws a) (hb : Ws b) (hA : a.length ≤ 4611686018427387904) (hB : b.length ≤ 4611686018427387904) : Ev (fun k => nat_Cmp.f k a b) (sg (val a) (val b)) := by
  have la := len_trim a
  have lb := len_trim b
  have e : ∀ k, nat_Cmp.f k a b = if sg ((trimL a).length : Int) ((trimL b).length : Int) = 0 then nat_Cmp.l0 k (trimL a) (trimL b) (wrap64 (((trimL a).length : Int) - 1)) else some (sg ((trimL a).length : Int) ((trimL b).length : Int)) := fun k => by
    simp only [nat_Cmp.f, nat_trim.f, Option.bind_some, cmpi]
  rw [← val_trim a, ← val_trim b]
  by_cases h : (trimL a).length = (trimL b).length
  · have := Cmp_l0 ha.trim hb.trim h (by omega) _ (Nat.le_refl _)
    rw [List.take_length, h, List.take_length] at this
    refine this.congr fun k => ?_
    rw [e, if_pos (by unfold sg; simp [h]), w64 (by omega) (by omega), h]
  · refine Ev.of fun k => ?_
    rw [e]
    have key : ∀ {x y : List Int}, Ws x → Ws y → Tr y → x.length < y.length → val x < val y := by
      intro x y hx hy ty hlt
      have h1 := val_lt hx
      have h2 := ty.ge hy (by intro h0; subst h0; simp at hlt)
      have h3 : pw x.length ≤ pw (y.length - 1) := by
        obtain ⟨d, hd⟩ : ∃ d, y.length - 1 = x.length + d := ⟨y.length - 1 - x.length, by omega⟩
        rw [hd, pw_add]
        have h4 : pw x.length * 1 ≤ pw x.length * pw d := Int.mul_le_mul_of_nonneg_left (pw_pos d) (Int.le_of_lt (pw_pos _))
        omega
      omega
    rcases Nat.lt_or_gt_of_ne h with h1 | h1
    · have := key ha.trim hb.trim (Tr.trim b) h1
      have e1 : sg ((trimL a).length : Int) ((trimL b).length : Int) = -1 := by unfold sg; rw [if_pos (by omega)]
      have e2 : sg (val (trimL a)) (val (trimL b)) = -1 := by unfold sg; rw [if_pos this]
      rw [e1, e2]; rfl
    · have := key hb.trim ha.trim (Tr.trim a) h1
      have e1 : sg ((trimL a).length : Int) ((trimL b).length : Int) = 1 := by unfold sg; rw [if_neg (by omega), if_neg (by omega)]
      have e2 : sg (val (trimL a)) (val (trimL b)) = 1 := by unfold sg; rw [if_neg (by omega), if_neg (by omega)]
      rw [e1, e2]; rfl

end Go.Proofs.YtmcodbgbjjldnaaDoor.Pr
