/- What the functions of ratios do: the walks of the seat 'ratio' with this seat's numbers. -/
import Derived.Test.YtamifcgljockaaaRows
import Derived.Test.YtamifcgljockaaaArgs
import Derived.Test.YtamifcgljockaaaBits
import Derived.Test.YtamifcgljockaaaRatioPure
import Derived.Shelf.Bits.Mul64
import Derived.Deep.RegionHeld3
import Derived.BigRegion
import Derived.BigQuiet
import Derived.Handy
namespace Go.Proofs
open Go.Shelf
def Try.lays264_ren : Go.Shelf.Ren := ⟨fun | 264 => 31 | n => n, fun | 53 => 28 | 46 => 75 | n => n, fun | n => n⟩
theorem Try.lays264 : Go.Proofs.Lays.n264 Try.prog Try.lays264_ren := {
  mixed := by kernel_rfl
  f264 := Try.func31.trans (congrArg some (by kernel_rfl))
  t46 := Try.underlying75
  a46 := Try.isAgg75
  z46 := Try.sizeOf75
  v46 := Try.zeroValue75
  t53 := Try.underlying28
  a53 := Try.isAgg28
  z53 := Try.sizeOf28
  v53 := Try.zeroValue28 }
end Go.Proofs
namespace Go.Proofs.Ytamifcgljockaaa
open Go.RowKit Go.Kpt RatioPure
set_option linter.unusedVariables false

/-- A number that a uint64 holds. -/
def Sm (x : Nat) : Prop := x < 18446744073709551616
def hi (x y : Nat) : Nat := x * y / 18446744073709551616
def lo (x y : Nat) : Nat := x * y % 18446744073709551616
def M64 : Nat := 18446744073709551616

theorem hi_lo (x y : Nat) : hi x y * M64 + lo x y = x * y := by
  unfold hi lo M64; rw [Nat.mul_comm]; exact Nat.div_add_mod _ _
theorem lo_lt (x y : Nat) : lo x y < M64 := Nat.mod_lt _ (by decide)

theorem mul_any (x y : Nat) (hx : Sm x) (hy : Sm y) (w : World) : Calls Try.prog 31 #[.int .u64 x, .int .u64 y] w fun e w' => e = .returned (.tuple #[.int .u64 (hi x y), .int .u64 (lo x y)]) ∧ w = w' :=
  (Any.bits_Mul64 Try.lays264 x y hx hy w).mono fun e w' ⟨h, h2⟩ => ⟨h, h2.symm⟩

set_option maxHeartbeats 400000 in
theorem nan_any (x : Nat) (w : World) : Calls Try.prog 39 #[.int .u64 x] w fun e w' => e = .returned (.bool false) ∧ w = w' := by
  go_enter Try.func39, Try.ntmps39
  go_wp2
  go_ret
  exact ⟨by simp, rfl⟩

set_option maxHeartbeats 400000 in
theorem cmp_any (x y : Nat) (w : World) : Calls Try.prog 35 #[.int .u64 x, .int .u64 y] w fun e w' => e = .returned (.int .i64 (sgn x y)) ∧ w = w' := by
  rcases Nat.lt_trichotomy x y with h | h | h
  · have H := Lib.hid (sgn_lt h)
    go_enter Try.func35, Try.ntmps35
    go_wp2_with fail
    refine (nan_any _ _).mono ?_
    rintro e w' ⟨rfl, rfl⟩
    go_wp2_with fail
    refine (nan_any _ _).mono ?_
    rintro e w' ⟨rfl, rfl⟩
    go_wp2_with fail
    go_ret
    exact ⟨by rw [H.out]; rfl, rfl⟩
  · have H := Lib.hid (sgn_eq h)
    subst h
    go_enter Try.func35, Try.ntmps35
    go_wp2_with fail
    refine (nan_any _ _).mono ?_
    rintro e w' ⟨rfl, rfl⟩
    go_wp2_with fail
    refine (nan_any _ _).mono ?_
    rintro e w' ⟨rfl, rfl⟩
    go_wp2_with fail
    go_ret
    exact ⟨by rw [H.out]; rfl, rfl⟩
  · have H := Lib.hid (sgn_gt h)
    have h2 : ¬ x < y := by omega
    go_enter Try.func35, Try.ntmps35
    go_wp2_with fail
    refine (nan_any _ _).mono ?_
    rintro e w' ⟨rfl, rfl⟩
    go_wp2_with fail
    refine (nan_any _ _).mono ?_
    rintro e w' ⟨rfl, rfl⟩
    go_wp2_with fail
    go_ret
    exact ⟨by rw [H.out]; rfl, rfl⟩

/-- The first that isn't nought. -/
def orI (x y : Int) : Int := if x = 0 then y else x
theorem orI_pos {x y : Int} (h : x = 0) : orI x y = y := if_pos h
theorem orI_neg {x y : Int} (h : ¬ x = 0) : orI x y = x := if_neg h

set_option maxHeartbeats 400000 in
theorem or_any (b : Nat) (x y : Int) (w : World) (h0 : w.cell? ⟨b, 0, none⟩ = some (.int .i64 x)) (h1 : w.cell? ⟨b, 1, none⟩ = some (.int .i64 y)) :
    Calls Try.prog 28 #[.slice (some ⟨b, 0, none⟩) 2 2] w fun e w' => e = .returned (.int .i64 (orI x y)) ∧ w = w' := by
  by_cases hx : x = 0
  · subst hx
    have H := Lib.hid (orI_pos (x := 0) (y := y) rfl)
    by_cases hy : y = 0
    · subst hy
      go_enter Try.func28, Try.ntmps28
      go_wp2
      refine wp_loop_rounds 3 ?_
      repeat any_goals (rw [rounds_succ]; go_wp2)
      go_ret
      exact ⟨by rw [H.out]; rfl, rfl⟩
    · have hyb : (y != 0) = true := by simpa using hy
      go_enter Try.func28, Try.ntmps28
      go_wp2
      refine wp_loop_rounds 3 ?_
      repeat any_goals (rw [rounds_succ]; go_wp2)
      go_ret
      exact ⟨by rw [H.out]; rfl, rfl⟩
  · have H := Lib.hid (orI_neg (y := y) hx)
    have hxb : (x != 0) = true := by simpa using hx
    go_enter Try.func28, Try.ntmps28
    go_wp2
    refine wp_loop_rounds 3 ?_
    repeat any_goals (rw [rounds_succ]; go_wp2)
    go_ret
    exact ⟨by rw [H.out]; rfl, rfl⟩

/-- Two products, by their halves. -/
theorem sgn_halves (p q p' q' : Nat) : orI (sgn (hi p q) (hi p' q')) (sgn (lo p q) (lo p' q')) = sgn (p * q) (p' * q') := by
  unfold orI
  have h1 := hi_lo p q
  have h2 := hi_lo p' q'
  have l1 := lo_lt p q
  have l2 := lo_lt p' q'
  have hM : 0 < M64 := by decide
  rw [← h1, ← h2]
  generalize hi p q = a at *
  generalize hi p' q' = b at *
  generalize lo p q = c at *
  generalize lo p' q' = d at *
  generalize M64 = M at *
  rcases Nat.lt_trichotomy a b with h | h | h
  · have := Nat.mul_le_mul_right M (show a + 1 ≤ b from h)
    rw [Nat.add_mul, Nat.one_mul] at this
    rw [sgn_lt h, if_neg (by decide), sgn_lt (by omega)]
  · subst h
    rw [sgn_eq rfl, if_pos rfl]
    exact sgn_congr (by omega) (by omega)
  · have := Nat.mul_le_mul_right M (show b + 1 ≤ a from h)
    rw [Nat.add_mul, Nat.one_mul] at this
    rw [sgn_gt h, if_neg (by decide), sgn_gt (by omega)]

/-- A ratio as a value. -/
abbrev rv (n d : Nat) : Value := .agg #[.int .u64 n, .int .u64 d]

set_option maxHeartbeats 400000 in
theorem compare_any (an ad bn bd : Nat) (ha : Sm an) (ha' : Sm ad) (hb : Sm bn) (hb' : Sm bd) (w : World) :
    Calls Try.prog 29 #[rv an ad, rv bn bd] w fun e w' => e = .returned (.int .i64 (sgn (an * bd) (bn * ad))) ∧ Below w.heap.size w w' := by
  have H := Lib.hid (sgn_halves an bd bn ad)
  go_enter Try.func29, Try.ntmps29
  go_wp2_with fail
  refine (mul_any _ _ ha hb' _).mono ?_
  rintro e w' ⟨rfl, rfl⟩
  go_wp2_with fail
  refine (mul_any _ _ hb ha' _).mono ?_
  rintro e w' ⟨rfl, rfl⟩
  go_wp2_with fail
  refine (cmp_any _ _ _).mono ?_
  rintro e w' ⟨rfl, rfl⟩
  go_wp2_with fail
  refine (cmp_any _ _ _).mono ?_
  rintro e w' ⟨rfl, rfl⟩
  go_wp2_with fail
  refine (or_any _ (sgn (hi an bd) (hi bn ad)) (sgn (lo an bd) (lo bn ad)) _ (by rw [World.cell?_alloc_at _ _ _ _ (by simp)]; rfl) (by rw [World.cell?_alloc_at _ _ _ _ (by simp)]; rfl)).mono ?_
  rintro e w' ⟨rfl, rfl⟩
  go_wp2_with fail
  go_ret
  exact ⟨by rw [← H.out]; rfl, by go_grown⟩

theorem wrap_div {n : Nat} (d : Nat) (h : Sm n) : IntKind.u64.wrap ((n : Int) / (d : Int)) = ((n / d : Nat) : Int) := by
  have h1 : n / d ≤ n := Nat.div_le_self _ _
  unfold Sm at h
  rw [← Int.natCast_ediv]
  generalize n / d = q at *
  exact IntWalk.u64_in _ ⟨by omega, by omega⟩

set_option maxHeartbeats 400000 in
theorem floor_any (n d : Nat) (hn : Sm n) (hd : 0 < d) (w : World) : Calls Try.prog 25 #[rv n d] w fun e w' => e = .returned (.int .u64 ((n / d : Nat) : Int)) ∧ Below w.heap.size w w' := by
  have hz : ((d : Int) == 0) = false := by simp; omega
  have hd0 : (0 : Int) < d := by omega
  go_enter Try.func25, Try.ntmps25
  go_wp2
  go_ret
  exact ⟨by rw [← wrap_div d hn]; rfl, by go_grown⟩

set_option maxHeartbeats 400000 in
theorem floor_none (n : Nat) (w : World) : Calls Try.prog 25 #[rv n 0] w fun e w' => e = .returned (.int .u64 0) ∧ Below w.heap.size w w' := by
  go_enter Try.func25, Try.ntmps25
  go_wp2
  go_ret
  exact ⟨rfl, by go_grown⟩

/-- A sum's low part, and what is carried. -/
def sm (x y : Nat) : Nat := (x + y) % 18446744073709551616
def cy (x y : Nat) : Nat := (x + y) / 18446744073709551616

theorem add64_run (x y : Nat) (w : World) : (callFunc 32 #[.int .u64 x, .int .u64 y, .int .u64 0]).run Try.prog w = .ok (.value (.tuple #[.int .u64 (sm x y), .int .u64 (cy x y)])) w := by
  rw [run_callFunc_extern Try.func32 (by kernel_rfl) (by kernel_rfl) (by kernel_rfl) (e := add64Entry) (by kernel_rfl) _ w, run_add64 _ _ _ (by omega) (by omega) (by omega) (by omega)]
  unfold sm cy
  rw [Int.natCast_emod, Int.natCast_ediv, Int.natCast_add, Int.add_zero]
  rfl

/-- There is room for the whole number and the part. -/
def Fits (n up down : Nat) : Prop := 0 < down ∧ hi n down = 0 ∧ cy (lo n down) up = 0

theorem fits_num {n up down : Nat} (h : Fits n up down) : sm (lo n down) up = n * down + up := by
  obtain ⟨_, h1, h2⟩ := h
  have e := hi_lo n down
  rw [h1, Nat.zero_mul, Nat.zero_add] at e
  unfold cy at h2; unfold sm
  rw [← e]
  have hl : lo n down + up < 18446744073709551616 := by
    rcases Nat.lt_or_ge (lo n down + up) 18446744073709551616 with h | h
    · exact h
    · have := Nat.div_le_div_right (c := 18446744073709551616) h; rw [h2] at this; simp at this
  exact Nat.mod_eq_of_lt hl

set_option maxHeartbeats 800000 in
theorem above_yes (n up down : Nat) (hn : Sm n) (hu : Sm up) (hd : Sm down) (hf : Fits n up down) (w : World) :
    Calls Try.prog 21 #[.int .u64 n, .int .u64 up, .int .u64 down] w fun e w' => e = .returned (.tuple #[rv (n * down + up) down, .bool true]) ∧ Below w.heap.size w w' := by
  have hm := mul_any n down hn hd
  have ha := add64_run (lo n down) up
  have HF := Lib.hid (fits_num hf)
  obtain ⟨h0, h1, h2⟩ := hf
  rw [h1] at hm
  rw [h2] at ha
  have hz : ((down : Int) == 0) = false := by simp; omega
  rw [HF.out] at ha
  generalize n * down + up = t at *
  clear h1 h2 HF
  go_enter Try.func21, Try.ntmps21
  go_wp2_with fail
  refine (hm _).mono ?_
  rintro e w' ⟨rfl, rfl⟩
  clear hm
  go_wp2_with fail
  go_returns
  exact ⟨rfl, by go_grown⟩
set_option linter.unusedVariables false

set_option maxHeartbeats 800000 in
theorem above_no1 (n up down : Nat) (hn : Sm n) (hu : Sm up) (hd : Sm down) (h : 0 < hi n down) (w : World) :
    Calls Try.prog 21 #[.int .u64 n, .int .u64 up, .int .u64 down] w fun e w' => e = .returned (.tuple #[rv 0 0, .bool false]) ∧ Below w.heap.size w w' := by
  have hm := mul_any n down hn hd
  have ha := add64_run (lo n down) up
  have h2 : (0 : Int) < (hi n down : Int) := by omega
  generalize hi n down = a at *
  generalize lo n down = l at *
  generalize sm l up = s at *
  generalize cy l up = c at *
  go_enter Try.func21, Try.ntmps21
  go_wp2_with fail
  refine (hm _).mono ?_
  rintro e w' ⟨rfl, rfl⟩
  clear hm
  go_wp2_with fail
  go_returns
  exact ⟨rfl, by go_grown⟩

set_option maxHeartbeats 800000 in
theorem above_no2 (n up down : Nat) (hn : Sm n) (hu : Sm up) (hd : Sm down) (h : hi n down = 0) (h1 : 0 < cy (lo n down) up) (w : World) :
    Calls Try.prog 21 #[.int .u64 n, .int .u64 up, .int .u64 down] w fun e w' => e = .returned (.tuple #[rv 0 0, .bool false]) ∧ Below w.heap.size w w' := by
  have hm := mul_any n down hn hd
  have ha := add64_run (lo n down) up
  rw [h] at hm
  clear h
  have h2 : (0 : Int) < (cy (lo n down) up : Int) := by omega
  generalize lo n down = l at *
  generalize sm l up = s at *
  generalize cy l up = c at *
  go_enter Try.func21, Try.ntmps21
  go_wp2_with fail
  refine (hm _).mono ?_
  rintro e w' ⟨rfl, rfl⟩
  clear hm
  go_wp2_with fail
  go_returns
  exact ⟨rfl, by go_grown⟩

set_option maxHeartbeats 800000 in
theorem above_no3 (n up down : Nat) (hn : Sm n) (hu : Sm up) (hd : Sm down) (h : down = 0) (w : World) :
    Calls Try.prog 21 #[.int .u64 n, .int .u64 up, .int .u64 down] w fun e w' => e = .returned (.tuple #[rv 0 0, .bool false]) ∧ Below w.heap.size w w' := by
  have hm := mul_any n down hn hd
  have ha := add64_run (lo n down) up
  have h1 : hi n down = 0 := by rw [h]; unfold hi; simp
  have h2 : lo n down = 0 := by rw [h]; unfold lo; simp
  have h3 : cy (lo n down) up = 0 := by rw [h2]; unfold cy; unfold Sm at hu; exact Nat.div_eq_of_lt (by omega)
  have hz : ((down : Int) == 0) = true := by simp; exact h
  rw [h1] at hm
  rw [h3] at ha
  clear h1 h2 h3 h
  generalize lo n down = l at *
  generalize sm l up = s at *
  go_enter Try.func21, Try.ntmps21
  go_wp2_with fail
  refine (hm _).mono ?_
  rintro e w' ⟨rfl, rfl⟩
  clear hm
  go_wp2_with fail
  go_returns
  exact ⟨rfl, by go_grown⟩

theorem above_no (n up down : Nat) (hn : Sm n) (hu : Sm up) (hd : Sm down) (hf : ¬ Fits n up down) (w : World) :
    Calls Try.prog 21 #[.int .u64 n, .int .u64 up, .int .u64 down] w fun e w' => e = .returned (.tuple #[rv 0 0, .bool false]) ∧ Below w.heap.size w w' := by
  by_cases h0 : down = 0
  · exact above_no3 n up down hn hu hd h0 w
  · by_cases h1 : hi n down = 0
    · by_cases h2 : cy (lo n down) up = 0
      · exact absurd ⟨by omega, h1, h2⟩ hf
      · exact above_no2 n up down hn hu hd h1 (by omega) w
    · exact above_no1 n up down hn hu hd (by omega) w

end Go.Proofs.Ytamifcgljockaaa
