/- Which time comes ahead: the walk. -/
import Derived.Test.YtkbmpmcckjhaaaaOrder3
import Derived.Deep.RegionHeld3
import Derived.Deep.RegionWith
import Derived.Handy
namespace Go.Proofs.Ytkbmpmcckjhaaaa
open Go.RowKit Go.Kpt HeapPure
set_option linter.unusedVariables false

set_option maxHeartbeats 400000 in
theorem nan64_any (x : Int) (w : World) : Calls Try.prog 29 #[.int .i64 x] w fun e w' => e = .returned (.bool false) ∧ w = w' := by
  go_enter Try.func29, Try.ntmps29
  go_wp2
  go_ret
  exact ⟨by simp, rfl⟩
set_option maxHeartbeats 400000 in
theorem nanI_any (x : Int) (w : World) : Calls Try.prog 30 #[.int .i64 x] w fun e w' => e = .returned (.bool false) ∧ w = w' := by
  go_enter Try.func30, Try.ntmps30
  go_wp2
  go_ret
  exact ⟨by simp, rfl⟩

set_option maxHeartbeats 400000 in
theorem cmp64_any (x y : Int) (w : World) : Calls Try.prog 25 #[.int .i64 x, .int .i64 y] w fun e w' => e = .returned (.int .i64 (sgnI x y)) ∧ w = w' := by
  rcases Int.lt_trichotomy x y with h | h | h
  · have H := Lib.hid (sgnI_lt h)
    go_enter Try.func25, Try.ntmps25
    go_wp2_with fail
    refine (nan64_any _ _).mono ?_
    rintro e w' ⟨rfl, rfl⟩
    go_wp2_with fail
    refine (nan64_any _ _).mono ?_
    rintro e w' ⟨rfl, rfl⟩
    go_wp2_with fail
    go_ret
    exact ⟨by rw [H.out]; rfl, rfl⟩
  · have H := Lib.hid (sgnI_eq h)
    have h1 : ¬ x < y := by omega
    have h2 : ¬ y < x := by omega
    clear h
    go_enter Try.func25, Try.ntmps25
    go_wp2_with fail
    refine (nan64_any _ _).mono ?_
    rintro e w' ⟨rfl, rfl⟩
    go_wp2_with fail
    refine (nan64_any _ _).mono ?_
    rintro e w' ⟨rfl, rfl⟩
    go_wp2_with fail
    go_ret
    exact ⟨by rw [H.out]; rfl, rfl⟩
  · have H := Lib.hid (sgnI_gt h)
    have h1 : ¬ x < y := by omega
    go_enter Try.func25, Try.ntmps25
    go_wp2_with fail
    refine (nan64_any _ _).mono ?_
    rintro e w' ⟨rfl, rfl⟩
    go_wp2_with fail
    refine (nan64_any _ _).mono ?_
    rintro e w' ⟨rfl, rfl⟩
    go_wp2_with fail
    go_ret
    exact ⟨by rw [H.out]; rfl, rfl⟩

set_option maxHeartbeats 400000 in
theorem cmpI_any (x y : Int) (w : World) : Calls Try.prog 26 #[.int .i64 x, .int .i64 y] w fun e w' => e = .returned (.int .i64 (sgnI x y)) ∧ w = w' := by
  rcases Int.lt_trichotomy x y with h | h | h
  · have H := Lib.hid (sgnI_lt h)
    go_enter Try.func26, Try.ntmps26
    go_wp2_with fail
    refine (nanI_any _ _).mono ?_
    rintro e w' ⟨rfl, rfl⟩
    go_wp2_with fail
    refine (nanI_any _ _).mono ?_
    rintro e w' ⟨rfl, rfl⟩
    go_wp2_with fail
    go_ret
    exact ⟨by rw [H.out]; rfl, rfl⟩
  · have H := Lib.hid (sgnI_eq h)
    have h1 : ¬ x < y := by omega
    have h2 : ¬ y < x := by omega
    clear h
    go_enter Try.func26, Try.ntmps26
    go_wp2_with fail
    refine (nanI_any _ _).mono ?_
    rintro e w' ⟨rfl, rfl⟩
    go_wp2_with fail
    refine (nanI_any _ _).mono ?_
    rintro e w' ⟨rfl, rfl⟩
    go_wp2_with fail
    go_ret
    exact ⟨by rw [H.out]; rfl, rfl⟩
  · have H := Lib.hid (sgnI_gt h)
    have h1 : ¬ x < y := by omega
    go_enter Try.func26, Try.ntmps26
    go_wp2_with fail
    refine (nanI_any _ _).mono ?_
    rintro e w' ⟨rfl, rfl⟩
    go_wp2_with fail
    refine (nanI_any _ _).mono ?_
    rintro e w' ⟨rfl, rfl⟩
    go_wp2_with fail
    go_ret
    exact ⟨by rw [H.out]; rfl, rfl⟩

/-- The first of three that isn't nought. -/
theorem orI_1 {a b c : Int} (h : a ≠ 0) : orI a b c = a := if_pos h
theorem orI_2 {b c : Int} (h : b ≠ 0) : orI 0 b c = b := by unfold orI; rw [if_neg (by decide), if_pos h]
theorem orI_3 (c : Int) : orI 0 0 c = c := by unfold orI; rw [if_neg (by decide), if_neg (by decide)]
set_option maxHeartbeats 1000000 in
theorem or_any (b : Nat) (x y z : Int) (w : World) (h0 : w.cell? ⟨b, 0, none⟩ = some (.int .i64 x)) (h1 : w.cell? ⟨b, 1, none⟩ = some (.int .i64 y)) (h2 : w.cell? ⟨b, 2, none⟩ = some (.int .i64 z)) :
    Calls Try.prog 24 #[.slice (some ⟨b, 0, none⟩) 3 3] w fun e w' => e = .returned (.int .i64 (orI x y z)) ∧ w = w' := by
  by_cases hx : x = 0
  · subst hx
    by_cases hy : y = 0
    · subst hy
      have H := Lib.hid (orI_3 z)
      by_cases hz : z = 0
      · subst hz
        go_enter Try.func24, Try.ntmps24
        go_wp2
        refine wp_loop_rounds 4 ?_
        repeat any_goals (rw [rounds_succ]; go_wp2)
        go_ret
        exact ⟨by rw [H.out]; rfl, rfl⟩
      · have hzb : (z != 0) = true := by simpa using hz
        go_enter Try.func24, Try.ntmps24
        go_wp2
        refine wp_loop_rounds 4 ?_
        repeat any_goals (rw [rounds_succ]; go_wp2)
        go_ret
        exact ⟨by rw [H.out]; rfl, rfl⟩
    · have H := Lib.hid (orI_2 (c := z) hy)
      have hyb : (y != 0) = true := by simpa using hy
      go_enter Try.func24, Try.ntmps24
      go_wp2
      refine wp_loop_rounds 4 ?_
      repeat any_goals (rw [rounds_succ]; go_wp2)
      go_ret
      exact ⟨by rw [H.out]; rfl, rfl⟩
  · have H := Lib.hid (orI_1 (b := y) (c := z) hx)
    have hxb : (x != 0) = true := by simpa using hx
    go_enter Try.func24, Try.ntmps24
    go_wp2
    refine wp_loop_rounds 4 ?_
    repeat any_goals (rw [rounds_succ]; go_wp2)
    go_ret
    exact ⟨by rw [H.out]; rfl, rfl⟩

/-- Two times in their blocks. -/
def Two (W : World) (x y : Nat) (a b : Tm) : Prop := W.heap[x]? = some (.cells #[.int .i64 a.at_, .int .i64 a.kd, .int .i64 a.id] 51 (0, 0)) ∧ W.heap[y]? = some (.cells #[.int .i64 b.at_, .int .i64 b.kd, .int .i64 b.id] 51 (0, 0))
theorem Two.kept {F : Nat → Prop} {w w' : World} {x y : Nat} {a b : Tm} (h : Two w x y a b) (k : Kept F w w') (h1 : ¬ F x) (h2 : ¬ F y) : Two w' x y a b :=
  ⟨(k.block x (lt_of h.1) h1).trans h.1, (k.block y (lt_of h.2) h2).trans h.2⟩
theorem Two.cells {W : World} {x y : Nat} {a b : Tm} (h : Two W x y a b) : W.cell? ⟨x, 0, none⟩ = some (.int .i64 a.at_) ∧ W.cell? ⟨x, 1, none⟩ = some (.int .i64 a.kd) ∧ W.cell? ⟨x, 2, none⟩ = some (.int .i64 a.id) ∧ W.cell? ⟨y, 0, none⟩ = some (.int .i64 b.at_) ∧ W.cell? ⟨y, 1, none⟩ = some (.int .i64 b.kd) ∧ W.cell? ⟨y, 2, none⟩ = some (.int .i64 b.id) :=
  ⟨cell_of h.1, cell_of h.1, cell_of h.1, cell_of h.2, cell_of h.2, cell_of h.2⟩

set_option maxRecDepth 100000 in
set_option maxHeartbeats 12000000 in
theorem less_any (a b : Tm) (w : World) : Calls Try.prog 17 #[mv a, mv b] w fun e w' => e = .returned (.bool (lt a b)) ∧ Below w.heap.size w w' := by
  have hT : Two ((w.alloc (.cells #[.int .i64 a.at_, .int .i64 a.kd, .int .i64 a.id] 51)).alloc (.cells #[.int .i64 b.at_, .int .i64 b.kd, .int .i64 b.id] 51)) w.heap.size (w.heap.size + 1) a b := by
    refine ⟨?_, ?_⟩
    · exact (Below.heap_alloc _ _ w.heap.size (by simp)).trans (heap_alloc_new _ _)
    · have := heap_alloc_new (w.alloc (.cells #[.int .i64 a.at_, .int .i64 a.kd, .int .i64 a.id] 51)) (.cells #[.int .i64 b.at_, .int .i64 b.kd, .int .i64 b.id] 51)
      rwa [World.size_alloc] at this
  have hB : Below w.heap.size w ((w.alloc (.cells #[.int .i64 a.at_, .int .i64 a.kd, .int .i64 a.id] 51)).alloc (.cells #[.int .i64 b.at_, .int .i64 b.kd, .int .i64 b.id] 51)) := by go_grown
  obtain ⟨w2, hw2⟩ : ∃ w2, (w.alloc (.cells #[.int .i64 a.at_, .int .i64 a.kd, .int .i64 a.id] 51)).alloc (.cells #[.int .i64 b.at_, .int .i64 b.kd, .int .i64 b.id] 51) = w2 := ⟨_, rfl⟩
  rw [hw2] at hT hB
  have hc := fun W => cmp64_any a.at_ b.at_ W
  have hi := fun W => cmpI_any a.kd b.kd W
  have hj := fun W => cmpI_any a.id b.id W
  obtain ⟨R, hR⟩ : ∃ R, lt a b = R := ⟨_, rfl⟩
  have hRR : decide (orI (sgnI a.at_ b.at_) (sgnI a.kd b.kd) (sgnI a.id b.id) < 0) = R := hR
  rw [hR]
  have hor := fun (V : World) => or_any V.heap.size (sgnI a.at_ b.at_) (sgnI a.kd b.kd) (sgnI a.id b.id) (V.alloc (.cells #[.int .i64 (sgnI a.at_ b.at_), .int .i64 (sgnI a.kd b.kd), .int .i64 (sgnI a.id b.id)] 3)) (cell_of (heap_alloc_new _ _)) (cell_of (heap_alloc_new _ _)) (cell_of (heap_alloc_new _ _))
  have hor2 := fun (V : World) => or_any V.heap.size (sgnI a.at_ b.at_) (sgnI a.kd b.kd) (sgnI a.id b.id) ((V.alloc (.cells #[.int .i64 (sgnI a.at_ b.at_), .int .i64 (sgnI a.kd b.kd), .int .i64 (sgnI a.id b.id)] 3)).drew) (cell_of (heap_alloc_new _ _)) (cell_of (heap_alloc_new _ _)) (cell_of (heap_alloc_new _ _))
  generalize sgnI a.at_ b.at_ = s1 at *
  generalize sgnI a.kd b.kd = s2 at *
  generalize sgnI a.id b.id = s3 at *
  generalize hoo : orI s1 s2 s3 = o at *
  have HT := Lib.hid (show ∀ W, Kept (fun _ => False) w2 W → (W.cell? ⟨w.heap.size, 0, none⟩ = some (.int .i64 a.at_) ∧ W.cell? ⟨w.heap.size, 1, none⟩ = some (.int .i64 a.kd) ∧ W.cell? ⟨w.heap.size, 2, none⟩ = some (.int .i64 a.id) ∧ W.cell? ⟨w.heap.size + 1, 0, none⟩ = some (.int .i64 b.at_) ∧ W.cell? ⟨w.heap.size + 1, 1, none⟩ = some (.int .i64 b.kd) ∧ W.cell? ⟨w.heap.size + 1, 2, none⟩ = some (.int .i64 b.id) ∧ Kept (fun _ => False) w2 W) from fun W k => by
    obtain ⟨e0, e1, e2, e3, e4, e5⟩ := (hT.kept k (fun h => h) (fun h => h)).cells
    exact ⟨e0, e1, e2, e3, e4, e5, k⟩)
  have HB := Lib.hid (show ∀ W, Kept (fun _ => False) w2 W → Below w.heap.size w W from fun W k => hB.trans (k.below hB.size (fun _ _ h => h)))
  clear hR hT hB hoo
  go_enter Try.func17, Try.ntmps17
  go_wp2_with fail
  clear hw2
  go_region_held3 (fun W => W.cell? ⟨w.heap.size, 0, none⟩ = some (.int .i64 a.at_) ∧ W.cell? ⟨w.heap.size, 1, none⟩ = some (.int .i64 a.kd) ∧ W.cell? ⟨w.heap.size, 2, none⟩ = some (.int .i64 a.id) ∧ W.cell? ⟨w.heap.size + 1, 0, none⟩ = some (.int .i64 b.at_) ∧ W.cell? ⟨w.heap.size + 1, 1, none⟩ = some (.int .i64 b.kd) ∧ W.cell? ⟨w.heap.size + 1, 2, none⟩ = some (.int .i64 b.id) ∧ Kept (fun _ => False) w2 W)
    (first | exact HT.out _ ((Kept.refl _ w2).drew) | (go_split_ands; exact HT.out _ (by assumption)) | (go_split_ands; exact HT.out _ (Kept.alloc (by assumption) _)))
    (first
      | (go_at_call 25; with_reducible refine (hc _).mono ?_; rintro e wb ⟨rfl, rfl⟩)
      | (go_at_call 26; first | (with_reducible refine (hi _).mono ?_; rintro e wb ⟨rfl, rfl⟩) | (with_reducible refine (hj _).mono ?_; rintro e wb ⟨rfl, rfl⟩))
      | (go_at_call 24; first | (with_reducible refine (hor _).mono ?_; rintro e wc ⟨rfl, rfl⟩) | (with_reducible refine (hor2 _).mono ?_; rintro e wc ⟨rfl, rfl⟩)))
  all_goals (obtain ⟨-, -, -, -, -, -, hkw⟩ := ‹_ ∧ _›)
  all_goals (go_wp2_with fail)
  all_goals go_ret
  all_goals exact ⟨by rw [← hRR]; rfl, HB.out _ hkw⟩

theorem lessC : LessC := less_any
end Go.Proofs.Ytkbmpmcckjhaaaa
