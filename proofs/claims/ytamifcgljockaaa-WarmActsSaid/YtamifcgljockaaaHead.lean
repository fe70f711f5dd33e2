/- The document's example of a cache. -/
import Derived.Test.YtamifcgljockaaaEvict
import Derived.Test.YtamifcgljockaaaLessW
namespace Go.Proofs.Ytamifcgljockaaa
open Go.RowKit Go.Kpt HeapPure RatioPure
set_option linter.unusedVariables false

/-- Of a heap in order the first one is there, and none is worth less. -/
theorem min_spec {l : List (Int × Mk)} (h : HeapPure.Good lt l) (hl : 0 < l.length) : HeapPure.get l (kk l 0) = some (vv l 0) ∧ ∀ k v, HeapPure.get l k = some v → lt v (vv l 0) = false := by
  refine ⟨(get_eq_some h.inj).2 ⟨0, ?_⟩, fun k v hg => ?_⟩
  · rw [getElem_of hl]; rfl
  · obtain ⟨i, hi⟩ := (get_eq_some h.inj).1 hg
    have hil : i < l.length := (List.getElem?_eq_some_iff.1 hi).1
    have := heaped_min ord_lt h.heaped i hil
    rw [getElem_of hil] at hi
    have hv : vv l i = v := by rw [vv_getD, Option.some.inj hi]
    rw [hv] at this
    exact this
theorem get_nil (k : Int) : HeapPure.get ([] : List (Int × Mk)) k = none := rfl

def m1 : Mk := mk 0 (2 * 10) 4 1 (by omega) (by omega) (by unfold Sm; omega)
def m2 : Mk := mk 0 (1 * 10) 1 2 (by omega) (by omega) (by unfold Sm; omega)
def b1 : List (Int × Mk) := setAt lt [] 1 m1
def b2 : List (Int × Mk) := setAt lt b1 2 m2
theorem gb1 : HeapPure.Good lt b1 := setAt_good ord_lt HeapPure.Good.nil 1 m1
theorem gb2 : HeapPure.Good lt b2 := setAt_good ord_lt gb1 2 m2
theorem get_b2 (k : Int) : HeapPure.get b2 k = if k = 2 then some m2 else if k = 1 then some m1 else none := by
  unfold b2
  rw [setAt_get ord_lt gb1]
  by_cases h : k = 2
  · rw [if_pos h, if_pos h]
  · rw [if_neg h, if_neg h]
    unfold b1
    rw [setAt_get ord_lt HeapPure.Good.nil, get_nil]
theorem len_b1 : b1.length = 1 := by
  unfold b1
  rw [setAt_length]; rfl
theorem len_b2 : b2.length = 2 := by
  unfold b2
  rw [setAt_length, ← get_isSome]
  have : HeapPure.get b1 2 = none := by unfold b1; rw [setAt_get ord_lt HeapPure.Good.nil, if_neg (by decide), get_nil]
  rw [this, len_b1]; rfl
theorem min_b2 : kk b2 0 = 1 ∧ vv b2 0 = m1 := by
  obtain ⟨h1, h2⟩ := min_spec gb2 (by rw [len_b2]; omega)
  have h3 := h2 1 m1 (by rw [get_b2, if_neg (by decide), if_pos rfl])
  rw [get_b2] at h1
  by_cases e2 : kk b2 0 = 2
  · rw [if_pos e2] at h1
    rw [← Option.some.inj h1] at h3
    rw [lt_false] at h3
    simp [m1, m2, mk] at h3
  · rw [if_neg e2] at h1
    by_cases e : kk b2 0 = 1
    · rw [if_pos e] at h1
      exact ⟨e, (Option.some.inj h1).symm⟩
    · rw [if_neg e] at h1; cases h1
theorem len_drop : (drop lt b2 1).length = 1 := by
  have : HeapPure.get b2 1 = some m1 := by rw [get_b2, if_neg (by decide), if_pos rfl]
  rw [drop_length, ← get_isSome, this, len_b2]; rfl

set_option maxRecDepth 100000 in
set_option maxHeartbeats 4000000 in
theorem head_any (w : World) : Calls Try.prog 8 #[] w fun e w' => e = .returned (.bool true) ∧ Below w.heap.size w w' := by
  go_enter Try.func8, Try.ntmps8
  go_wp2_with fail
  refine (cnew_any w).mono ?_
  rintro e w1 ⟨cb, rfl, h1, hB1⟩
  have s1 : Calls Try.prog 10 #[.pointer (some ⟨cb, 0, none⟩), .int .i64 1, .int .u64 2, .int .u64 10, .int .u64 4] w1 _ := cset_any lessC _ cb [] 0 1 (by decide) 2 10 4 (by omega) (by omega) (by omega) (by unfold Sm; omega) (by omega) (by simp) w1 h1
  go_wp2_with fail
  refine s1.mono ?_
  clear s1
  rintro e w2 ⟨rfl, h2, k2, -⟩
  have h2 : WB w2 w.heap.size cb b1 0 := h2
  have s2 : Calls Try.prog 10 #[.pointer (some ⟨cb, 0, none⟩), .int .i64 2, .int .u64 1, .int .u64 10, .int .u64 1] w2 _ := cset_any lessC _ cb b1 0 2 (by decide) 1 10 1 (by omega) (by omega) (by omega) (by unfold Sm; omega) (by omega) (by rw [len_b1]; omega) w2 h2
  go_wp2_with fail
  refine s2.mono ?_
  clear s2
  rintro e w3 ⟨rfl, h3, k3, -⟩
  have h3 : WB w3 w.heap.size cb b2 0 := h3
  have s3 := evict_some lessC _ cb b2 0 (by rw [len_b2]; omega) w3 h3
  rw [min_b2.1, min_b2.2] at s3
  go_wp2_with fail
  refine s3.mono ?_
  clear s3
  rintro e w4 ⟨rfl, h4, k4, -⟩
  have h4 : WB w4 w.heap.size cb (drop lt b2 1) 5 := h4
  have s4 : Calls Try.prog 15 #[.pointer (some ⟨cb, 0, none⟩)] w4 fun e w' => e = .returned (.int .u64 5) ∧ w4 = w' := clock_any _ cb _ 5 w4 h4
  have s5 := clen_any _ cb _ 5 w4 h4
  rw [len_drop] at s5
  have s5 : Calls Try.prog 12 #[.pointer (some ⟨cb, 0, none⟩)] w4 fun e w' => e = .returned (.int .i64 1) ∧ w4 = w' := s5
  have hfin := hB1.trans (k2.trans (k3.trans k4))
  clear h1 h2 h3 h4 hB1 k2 k3 k4
  go_wp2_with fail
  refine s4.mono ?_
  rintro e w5 ⟨rfl, rfl⟩
  go_wp2_with fail
  refine s5.mono ?_
  rintro e w5 ⟨rfl, rfl⟩
  go_wp2_with fail
  go_ret
  exact ⟨rfl, hfin⟩
end Go.Proofs.Ytamifcgljockaaa
