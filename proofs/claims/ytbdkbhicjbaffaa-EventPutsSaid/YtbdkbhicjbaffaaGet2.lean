/- The event with which bytes begin, and how many it has. -/
import Derived.Test.YtbdkbhicjbaffaaGet
import Derived.Deep.RegionWith
import Derived.Deep.CutRange
namespace Go.Proofs.Ytbdkbhicjbaffaa
open Go.RowKit Go.Kpt WirePure
set_option linter.unusedVariables false

theorem Ev.drew {w : World} {b : Nat} {f : Evt} (h : Ev w b f) : Ev w.drew b f := h

set_option maxRecDepth 100000 in
set_option maxHeartbeats 1000000 in
theorem get_any (a : Option Addr) (cap : Nat) (zs : List Nat) (p : Nat → Prop) (w : World) (hsl : Sl .u8 w p a (ib zs)) (hp : ∀ x, p x → x < w.heap.size) (hcap : zs.length ≤ cap) (hz : zs.length ≤ 100000) (hcb : ∀ c ∈ zs, c < 256)
    (f : Evt) (n e : Nat) (hR : getE zs = (f, n, e)) :
    Calls Try.prog 11 #[.slice a zs.length cap] w fun x w' => x = .returned (.tuple #[.agg (evc f), .int .i64 n, .int .i64 e]) ∧ Below w.heap.size w w' := by
  obtain ⟨y, hy⟩ : ∃ y, getR zs = y := ⟨_, rfl⟩
  obtain ⟨f0, n0, e0⟩ := y
  have hR2 : f = (if e0 = 0 then f0 else noev) ∧ n = (if e0 = 0 then n0 else 0) ∧ e = e0 := by
    unfold getE at hR
    rw [hy] at hR
    dsimp only at hR
    split at hR <;> rename_i h0
    · simp at hR; rw [if_pos h0, if_pos h0]; exact ⟨hR.1.symm, hR.2.1.symm, by omega⟩
    · simp at hR; rw [if_neg h0, if_neg h0]; exact ⟨hR.1.symm, by omega, by omega⟩
  obtain ⟨rfl, hn, rfl⟩ := hR2
  have hB0 : Below w.heap.size w (w.alloc (.cells (evc noev) 24)) := by go_grown
  have hEz : Ev (w.alloc (.cells (evc noev) 24)) w.heap.size noev := Ev.new _ _
  have hsl1 : Sl .u8 (w.alloc (.cells (evc noev) 24)) p a (ib zs) := hsl.kept ((Kept.refl (fun _ => False) w).alloc _) (fun _ _ h => h)
  have hzz : (w.alloc (.cells (evc noev) 24)).heap.size = w.heap.size + 1 := by simp
  clear hsl hR
  go_enter Try.func11, Try.ntmps11
  go_wp2_with fail
  change Calls _ _ _ (w.alloc (.cells (evc noev) 24)) _
  generalize w.alloc (.cells (evc noev) 24) = w1 at *
  refine (read_any a zs.length cap w1).mono ?_
  rintro e1 w2 ⟨rfl, hrd, hB2, hz2⟩
  have hk2 := Kept.of_below (F := fun _ => False) hB2
  have hEz2 := hEz.kept hk2 (fun h => h)
  have hsl2 := hsl1.kept hk2 (fun _ _ h => h)
  have hB3 : Below w.heap.size w w2 := hB0.trans (hB2.mono (by omega))
  have hr1 : w.heap.size < w1.heap.size := by omega
  have hr2 : w1.heap.size < w2.heap.size := by omega
  clear hzz hz2
  generalize hr : w1.heap.size = r at *
  clear hr
  clear hB0 hEz hsl1 hB2 hk2
  go_wp2_with fail
  have hone := one_any r a cap zs p w2 hrd hsl2 (fun x hx => by have := hp x hx; omega) hcap hz hcb f0 n0 e hy
  generalize hgg : (if e = 0 then f0 else noev) = g at *
  simp only [evc] at hone
  refine hone.mono ?_
  clear hone
  rintro e1 w3 ⟨rfl, hrd3, hk3⟩
  have hEz3 := hEz2.kept hk3 (by omega)
  have hB4 : Below w.heap.size w w3 := hB3.trans (hk3.below (by omega) (by intro x hx h; omega))
  have hz3 := hk3.size
  have hE5 : Ev (w3.alloc (.cells (evc g) 24)) w3.heap.size g := Ev.new _ _
  have hEz5 : Ev (w3.alloc (.cells (evc g) 24)) w.heap.size noev := hEz3.kept ((Kept.refl (fun _ => False) w3).alloc _) (fun h => h)
  have hrd5 : Rd (w3.alloc (.cells (evc g) 24)) r a zs.length cap n0 e := hrd3.kept ((Kept.refl (fun _ => False) w3).alloc _) (fun h => h)
  have hB5 : Below w.heap.size w (w3.alloc (.cells (evc g) 24)) := hB4.alloc (by omega) _
  have q5 : w.heap.size ≠ w3.heap.size := by omega
  obtain ⟨w5, hw5⟩ : ∃ w5, w3.alloc (.cells (evc g) 24) = w5 := ⟨_, rfl⟩
  rw [hw5] at hE5 hEz5 hrd5 hB5
  clear hEz2 hsl2 hrd hB3 hk3 hrd3 hEz3 hB4
  obtain ⟨a0, a1, a2, a3, a4, a5, a6, a7, a8, a9⟩ := hE5.ten
  obtain ⟨b0, b1, b2, b3, b4, b5, b6, b7, b8, b9⟩ := hEz5.ten
  have hfz := hEz5.free
  by_cases he : e = 0
  · subst he
    obtain rfl : n = n0 := by simpa using hn
    obtain rfl : f0 = g := by simpa using hgg
    have hat := at_any r a zs.length cap n 0 w5.drew hrd5
    clear hn hgg
    simp only [evc] at hw5
    go_upto_region 3 with fail
    clear hw5
    go_wp2_with fail
    go_region_with (go_at_call 21; refine hat.mono ?_; rintro e w6 ⟨rfl, rfl⟩)
    all_goals (go_wp2_with fail)
    all_goals
      change bodyPost _ _ _ _ _ (set10 w5 w.heap.size f0).drew
      have ev6 : Ev (set10 w5 w.heap.size f0).drew w.heap.size f0 := (set10_ev hEz5 f0).drew
      have k6 : Kept (fun x => x = w.heap.size) w5 (set10 w5 w.heap.size f0).drew := (set10_kept w5 w.heap.size f0).drew
      generalize (set10 w5 w.heap.size f0).drew = w6 at *
      clear hEz5 hfz a0 a1 a2 a3 a4 a5 a6 a7 a8 a9 b0 b1 b2 b3 b4 b5 b6 b7 b8 b9
      obtain ⟨a0, a1, a2, a3, a4, a5, a6, a7, a8, a9⟩ := ev6.ten
      refine bodyPost_ret (by simp [results, Try.results11, go_sem, a0, a1, a2, a3, a4, a5, a6, a7, a8, a9]; try rfl) rfl ?_
      exact ⟨rfl, hB5.trans (k6.below (by have := hB5.size; omega) (by intro x hx h; omega))⟩
  · have e1 : ((e : Int) != 0) = true := by simp; omega
    obtain rfl : n = 0 := by rw [if_neg he] at hn; exact hn
    obtain rfl : g = noev := by rw [if_neg he] at hgg; exact hgg.symm
    clear hn hgg
    simp only [evc] at hw5
    go_upto_region 3 with fail
    clear hw5
    go_wp2_with fail
    change bodyPost _ _ _ _ _ (set10 w5 w.heap.size noev)
    have ev6 := set10_ev hEz5 noev
    have k6 := set10_kept w5 w.heap.size noev
    generalize set10 w5 w.heap.size noev = w6 at *
    clear hEz5 hfz a0 a1 a2 a3 a4 a5 a6 a7 a8 a9 b0 b1 b2 b3 b4 b5 b6 b7 b8 b9
    obtain ⟨a0, a1, a2, a3, a4, a5, a6, a7, a8, a9⟩ := ev6.ten
    refine bodyPost_ret (by simp [results, Try.results11, go_sem, a0, a1, a2, a3, a4, a5, a6, a7, a8, a9]; try rfl) rfl ?_
    exact ⟨rfl, hB5.trans (k6.below (by have := hB5.size; omega) (by intro x hx h; omega))⟩
end Go.Proofs.Ytbdkbhicjbaffaa
