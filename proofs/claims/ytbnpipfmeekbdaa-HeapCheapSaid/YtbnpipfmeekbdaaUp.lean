/- What a heap's functions do: up, down, fix. -/
import Derived.Test.YtbnpipfmeekbdaaWalks
namespace Go.Proofs.Ytbnpipfmeekbdaa
open Go.RowKit Go.Kpt HeapPure
set_option linter.unusedVariables false

def lt (a b : Int) : Bool := decide (a < b)
theorem ord_lt : Ord lt := ⟨fun a b h => by simp [lt] at *; omega, fun a b c h1 h2 => by simp [lt] at *; omega⟩
abbrev fv9 : Value := .func (.func 9) #[] #[]

set_option maxHeartbeats 1000000 in
theorem less_any (a b : Int) (w : World) : Calls Try.prog 9 #[.int .i64 a, .int .i64 b] w fun e w' => e = .returned (.bool (lt a b)) ∧ w' = w := by
  go_enter Try.func9, Try.ntmps9
  go_wp2_with fail
  go_ret
  exact ⟨rfl, rfl⟩

theorem up_go {l : List (Int × Int)} {i : Nat} (h : 0 < i) (hl : lt (vv l i) (vv l (par i)) = true) : up lt l i = up lt (swp l i (par i)) (par i) := by rw [up, dif_pos ⟨h, hl⟩]
theorem up_stop {l : List (Int × Int)} {i : Nat} (h : ¬ (0 < i ∧ lt (vv l i) (vv l (par i)) = true)) : up lt l i = (l, i) := by rw [up, dif_neg h]
theorem down_stop {l : List (Int × Int)} {i : Nat} (h : least lt l i = i) : down lt l i = l := by rw [down, dif_pos h]
theorem down_go {l : List (Int × Int)} {i : Nat} (h : ¬ least lt l i = i) : down lt l i = down lt (swp l i (least lt l i)) (least lt l i) := by rw [down, dif_neg h]
theorem vv_getD (l : List (Int × Int)) (i : Nat) : vv l i = (l.getD i (0, 0)).2 := rfl

theorem Hp.kept {w w' : World} {base hb : Nat} {fv v : Value} {mb : Nat} {l : List (Int × Int)} (h : Hp w base hb fv v mb l) {F : Nat → Prop} (k : Kept F w w') (h1 : ¬ F hb) (h2 : ¬ F mb) (h3 : ∀ g, v.ownBlock = some g → ¬ F g) : Hp w' base hb fv v mb l :=
  ⟨(k.block hb (lt_of h.blk) h1).trans h.blk, h.own.kept k h3, h.mp.kept k h2, h.inj, h.wf, h.len⟩
theorem Hp.drewN {w : World} {base hb : Nat} {fv v : Value} {mb : Nat} {l : List (Int × Int)} (h : Hp w base hb fv v mb l) (n : Nat) : Hp (w.drewN n) base hb fv v mb l :=
  h.kept (F := fun _ => False) ((Kept.refl _ _).drewN n) (fun h => h) (fun h => h) (fun _ _ h => h)
/-- The blocks of a heap that an operation may turn. -/
abbrev own (mb : Nat) (v : Value) (x : Nat) : Prop := x = mb ∨ some x = v.ownBlock

set_option maxRecDepth 1000000 in
set_option maxHeartbeats 8000000 in
theorem up_any (base hb : Nat) (v : Value) (mb : Nat) (l : List (Int × Int)) (i0 : Nat) (hi0 : i0 < l.length) (w : World) (h : Hp w base hb fv9 v mb l) :
    Calls Try.prog 18 #[.pointer (some ⟨hb, 0, none⟩), .int .i64 i0] w fun e w' => e = .returned (.bool ((((up lt l i0).2 : Nat) : Int) != (i0 : Int))) ∧ Hp w' base hb fv9 v mb (up lt l i0).1 ∧ Kept (own mb v) w w' := by
  go_enter Try.func18, Try.ntmps18
  go_wp2_with fail
  go_loopw [1] (fun x wr => ∃ (i : Nat) (l' : List (Int × Int)), x = .int .i64 i ∧ i < l'.length ∧ up lt l' i = up lt l i0 ∧ Hp wr base hb fv9 v mb l' ∧ Kept (own mb v) w wr) (fun x _ => (intOf x).toNat)
  case atStart => exact ⟨i0, l, rfl, hi0, rfl, h, Kept.refl _ _⟩
  case round =>
    clear h
    obtain ⟨i, l', rfl, hi, hup, h, hk⟩ := hrel
    rcases h.own.shape with ⟨-, rfl⟩ | ⟨g, cap, rfl, hg1, hg2, hlc, hcm, hfz, hcl⟩
    · simp at hi
    have hlen := h.len
    have q0 : wr.cell? ⟨hb, 0, none⟩ = some fv9 := cell_of h.blk
    have q1 : wr.cell? ⟨hb, 1, none⟩ = some (.slice (some ⟨g, 0, none⟩) l'.length cap) := cell_of h.blk
    have c1 := (hcl i hi).2
    have HH := Lib.hid h
    have HK := Lib.hid hk
    by_cases hpos : 0 < i
    · have hp := par_lt hpos
      have hpc := (hcl (par i) (by omega)).2
      have hpe : ((i : Int) - 1).tdiv 2 = (par i : Int) := by
        rw [Int.tdiv_eq_ediv_of_nonneg (by omega)]; unfold par; omega
      obtain ⟨p, hpp⟩ : ∃ p, par i = p := ⟨_, rfl⟩
      have hvi := vv_getD l' i
      have hvp := vv_getD l' p
      rw [hpp] at hp hpc hpe
      rw [← hvi] at c1
      rw [← hvp] at hpc
      obtain ⟨a, ha⟩ : ∃ a, vv l' i = a := ⟨_, rfl⟩
      obtain ⟨b, hb'⟩ : ∃ b, vv l' p = b := ⟨_, rfl⟩
      rw [ha] at c1
      rw [hb'] at hpc
      have j1 : (0 : Int) < (i : Int) := by omega
      have j2 : (i : Int) < (l'.length : Int) := by omega
      have j3 : (p : Int) < (l'.length : Int) := by omega
      have hsw := fun W (hW : Hp W base hb fv9 (.slice (some ⟨g, 0, none⟩) l'.length cap) mb l') => swap_any base hb fv9 _ mb l' i p hi (by omega) W hW
      have hls := fun n => less_any a b (wr.drewN n)
      cases hab : lt a b
      · have hst := up_stop (l := l') (i := i) (fun hh => by rw [hpp, ha, hb', hab] at hh; cases hh.2)
        rw [hab] at hls
        rw [hst] at hup
        clear hcl hfz h hk hvi hvp ha hb' hpp hsw hst
        go_wp2_with fail
        go_quiet ((go_at_call 9; exact Calls.quiet_of_same (hls _)))
        go_wp2_with fail
        go_ret
        rw [← hup]
        exact ⟨rfl, HH.out.drewN _, HK.out.drewN _⟩
      · have hgo := up_go (l := l') hpos (by rw [hpp, ha, hb', hab])
        rw [hpp] at hgo
        rw [hgo] at hup
        rw [hab] at hls
        clear hcl hfz h hk hvi hvp ha hb' hpp hgo
        go_wp2_with fail
        go_quiet ((go_at_call 9; exact Calls.quiet_of_same (hls _)))
        go_wp2_with fail
        refine (hsw _ (HH.out.drewN _)).mono ?_
        rintro e w2 ⟨rfl, h2, k2⟩
        have hk2 : Kept (own mb (.slice (some ⟨g, 0, none⟩) l'.length cap)) w w2 := (HK.out.drewN _).trans k2 (fun _ _ h => h)
        have hsl : p < (swp l' i p).length := by rw [length_swp]; omega
        clear hls hsw q0 q1 c1 hpc HH HK k2
        go_wp2_with fail
        go_roundw
        case rel => exact ⟨p, _, rfl, hsl, hup, h2, hk2⟩
        case measure => simp [intOf]; omega
    · obtain rfl : i = 0 := by omega
      have hst := up_stop (l := l') (i := 0) (fun hh => hpos hh.1)
      rw [hst] at hup
      have j1 : decide ((0 : Int) < (0 : Int)) = false := rfl
      clear hcl hfz h hk hst
      go_wp2_with fail
      go_quiet (fail)
      go_wp2_with fail
      go_ret
      rw [← hup]
      exact ⟨rfl, HH.out.drewN _, HK.out.drewN _⟩
end Go.Proofs.Ytbnpipfmeekbdaa
