/- The law's own: an event of a kind with such numbers. -/
import Derived.Test.YtbdkbhicjbaffaaGet
import Derived.Deep.CutRange
namespace Go.Proofs.Ytbdkbhicjbaffaa
open Go.RowKit Go.Kpt WirePure
set_option linter.unusedVariables false

def cpyK (k : Int) (f : Evt) (l : List (Fin 10)) : Evt := fun i => if i = 0 then k else if i ∈ l then f i else 0
theorem cpyK_eq (f : Evt) (l : List (Fin 10)) : cpyK (f 0) f l = cpy f l := by
  funext i
  by_cases h : i = 0
  · subst h; simp [cpyK, cpy]
  · simp [cpyK, cpy, h]

theorem sl_at {w : World} {p : Nat → Prop} {a : Option Addr} {zs : List Int} (h : Sl .i64 w p a zs) (h0 : 0 < zs.length) : ∃ b off, a = some ⟨b, off, none⟩ ∧ p b ∧ ∀ i, i < zs.length → w.cell? ⟨b, off + i, none⟩ = some (.int .i64 (zs.getD i 0)) := by
  obtain ⟨b, off, rfl, hb, hc⟩ := h 0 h0
  refine ⟨b, off, rfl, hb, fun i hi => ?_⟩
  obtain ⟨b2, off2, h1, h2, h3⟩ := h i hi
  cases h1
  exact h3

set_option maxRecDepth 100000 in
set_option maxHeartbeats 1000000 in
theorem with_any (f : Evt) (a : Option Addr) (cap n : Nat) (p : Nat → Prop) (w : World) (hk : kOK (f 0)) (hsl : Sl .i64 w p a ((parts (f 0)).map f)) (hn : n = (parts (f 0)).length) (hp : ∀ x, p x → x < w.heap.size) :
    Calls Try.prog 16 #[.int .i64 (f 0), .slice a n cap] w fun e w' => e = .returned (.agg (evc (cpy f (parts (f 0))))) ∧ Below w.heap.size w w' := by
  rw [← cpyK_eq]
  have hrb : Ev (w.alloc (.cells (evc noev) 24)) w.heap.size noev := Ev.new _ _
  have hB : Below w.heap.size w (w.alloc (.cells (evc noev) 24)) := by go_grown
  have hsl1 : Sl .i64 (w.alloc (.cells (evc noev) 24)) p a ((parts (f 0)).map f) := hsl.kept ((Kept.refl (fun _ => False) w).alloc _) (fun _ _ h => h)
  have hz : w.heap.size < (w.alloc (.cells (evc noev) 24)).heap.size := by simp
  obtain ⟨w1, hw1⟩ : ∃ w1, w.alloc (.cells (evc noev) 24) = w1 := ⟨_, rfl⟩
  rw [hw1] at hrb hB hsl1 hz
  have heb : Ev (w1.alloc (.cells (evc (ev0 (f 0))) 24)) w1.heap.size (ev0 (f 0)) := Ev.new _ _
  have hrb2 : Ev (w1.alloc (.cells (evc (ev0 (f 0))) 24)) w.heap.size noev := hrb.kept ((Kept.refl (fun _ => False) w1).alloc _) (fun h => h)
  have hB2 : Below w.heap.size w (w1.alloc (.cells (evc (ev0 (f 0))) 24)) := hB.alloc (by omega) _
  have hsl2 : Sl .i64 (w1.alloc (.cells (evc (ev0 (f 0))) 24)) p a ((parts (f 0)).map f) := hsl1.kept ((Kept.refl (fun _ => False) w1).alloc _) (fun _ _ h => h)
  obtain ⟨w2, hw2⟩ : ∃ w2, w1.alloc (.cells (evc (ev0 (f 0))) 24) = w2 := ⟨_, rfl⟩
  rw [hw2] at heb hrb2 hB2 hsl2
  clear hrb hB hsl1 hsl
  have hpe : ∀ x, p x → x ≠ w1.heap.size ∧ x ≠ w.heap.size := fun x hx => by have := hp x hx; omega
  obtain ⟨a0, a1, a2, a3, a4, a5, a6, a7, a8, a9⟩ := heb.ten
  obtain ⟨b0, b1, b2, b3, b4, b5, b6, b7, b8, b9⟩ := hrb2.ten
  have hfe := heb.free
  have hfr := hrb2.free
  have hne : w.heap.size ≠ w1.heap.size := by omega
  have hne2 : w1.heap.size ≠ w.heap.size := by omega
  have hall := parts_cases (f 0)
  simp only [evc, noev, ev0, upd] at hw1 a0 a1 a2 a3 a4 a5 a6 a7 a8 a9 b0 b1 b2 b3 b4 b5 b6 b7 b8 b9
  simp at a0 a1 a2 a3 a4 a5 a6 a7 a8 a9
  generalize hps : parts (f 0) = ps at *
  have h49 := hk
  unfold kOK at h49
  clear hk
  generalize hfk : f 0 = k at *
  have HW := Lib.hid hw2
  clear hw2
  have HA := Lib.hid hall
  have HE := Lib.hid heb
  have HP := Lib.hid hpe
  have HS := Lib.hid hsl2
  have HZ := Lib.hid hz
  clear hall heb hpe hsl2 hz hps hfk hp
  go_enter Try.func16, Try.ntmps16
  by_cases k0 : k = 0
  · subst k0
    obtain rfl : ps = [] := by rcases HA.out with h | h | h | h | h <;> first | exact h.2 | omega
    obtain rfl : n = 0 := hn
    have hu : ev0 0 = cpyK 0 f [] := by funext j; exact fin10 (P := fun j => (ev0 0) j = cpyK 0 f [] j) j rfl rfl rfl rfl rfl rfl rfl rfl rfl rfl
    have hW : Ev w2 w1.heap.size (cpyK 0 f []) := hu ▸ (HE.out)
    have hWk : Kept (fun x => x = w1.heap.size) w2 w2 := Kept.refl (fun x => x = w1.heap.size) w2
    have hWr : Ev w2 w.heap.size noev := hrb2.kept hWk hne
    have hB4 : Below w.heap.size w w2 := hB2.trans (hWk.below hB2.size (by intro x hx h; have := HZ.out; omega))
    have hz4 : w.heap.size ≤ (w2).heap.size := hB4.size
    go_upto_region 2 with fail
    change Code.wp _ _ _ _ (w1.alloc (.cells (evc (ev0 0)) 24))
    rw [HW.out]
    go_upto_region 20 with fail
    change Code.wp _ _ _ _ w2
    generalize w2 = w3 at *
    clear hfe hfr a0 a1 a2 a3 a4 a5 a6 a7 a8 a9 b0 b1 b2 b3 b4 b5 b6 b7 b8 b9 hWk
    obtain ⟨a0, a1, a2, a3, a4, a5, a6, a7, a8, a9⟩ := hW.ten
    obtain ⟨b0, b1, b2, b3, b4, b5, b6, b7, b8, b9⟩ := hWr.ten
    have hfe := hW.free
    have hfr := hWr.free
    have ev6 : Ev (set10 w3 w.heap.size (cpyK 0 f [])) w.heap.size (cpyK 0 f []) := set10_ev hWr _
    have hB3 : Below w.heap.size w (set10 w3 w.heap.size (cpyK 0 f [])) := hB4.trans ((set10_kept w3 w.heap.size (cpyK 0 f [])).below hz4 (by intro x hx h; omega))
    clear hW hWr hB4 hB2
    generalize hgg : cpyK 0 f [] = g at *
    have HG := Lib.hid hgg
    clear hgg
    go_wp2_with fail
    change bodyPost _ _ _ _ _ (set10 w3 w.heap.size g)
    generalize set10 w3 w.heap.size g = w6 at *
    clear hfe hfr a0 a1 a2 a3 a4 a5 a6 a7 a8 a9 b0 b1 b2 b3 b4 b5 b6 b7 b8 b9
    obtain ⟨a0, a1, a2, a3, a4, a5, a6, a7, a8, a9⟩ := ev6.ten
    refine bodyPost_ret (by simp [results, Try.results16, go_sem, a0, a1, a2, a3, a4, a5, a6, a7, a8, a9]; try rfl) rfl ?_
    exact ⟨by rw [HG.out]; rfl, hB3⟩
  by_cases k1 : k = 1
  · subst k1
    obtain rfl : ps = [1, 2, 3, 4] := by rcases HA.out with h | h | h | h | h <;> first | exact h.2 | omega
    obtain rfl : n = 4 := hn
    obtain ⟨b, off, rfl, hb, hc⟩ := sl_at HS.out (by simp)
    have hb1 := (HP.out b hb).1
    have hb2 := (HP.out b hb).2
    have s0 : w2.cell? ⟨b, off, none⟩ = some (.int .i64 (f 1)) := hc 0 (by simp)
    have s1 : w2.cell? ⟨b, off + 1, none⟩ = some (.int .i64 (f 2)) := hc 1 (by simp)
    have s2 : w2.cell? ⟨b, off + 2, none⟩ = some (.int .i64 (f 3)) := hc 2 (by simp)
    have s3 : w2.cell? ⟨b, off + 3, none⟩ = some (.int .i64 (f 4)) := hc 3 (by simp)
    have hu : upd (upd (upd (upd (ev0 1) 1 (f 1)) 2 (f 2)) 3 (f 3)) 4 (f 4) = cpyK 1 f [1, 2, 3, 4] := by funext j; exact fin10 (P := fun j => (upd (upd (upd (upd (ev0 1) 1 (f 1)) 2 (f 2)) 3 (f 3)) 4 (f 4)) j = cpyK 1 f [1, 2, 3, 4] j) j rfl rfl rfl rfl rfl rfl rfl rfl rfl rfl
    have hW : Ev ((((w2.setCell ⟨w1.heap.size, 1, none⟩ (.int .i64 (f 1))).setCell ⟨w1.heap.size, 2, none⟩ (.int .i64 (f 2))).setCell ⟨w1.heap.size, 3, none⟩ (.int .i64 (f 3))).setCell ⟨w1.heap.size, 4, none⟩ (.int .i64 (f 4))) w1.heap.size (cpyK 1 f [1, 2, 3, 4]) := hu ▸ (((((HE.out).set 1 (f 1)).set 2 (f 2)).set 3 (f 3)).set 4 (f 4))
    have hWk : Kept (fun x => x = w1.heap.size) w2 ((((w2.setCell ⟨w1.heap.size, 1, none⟩ (.int .i64 (f 1))).setCell ⟨w1.heap.size, 2, none⟩ (.int .i64 (f 2))).setCell ⟨w1.heap.size, 3, none⟩ (.int .i64 (f 3))).setCell ⟨w1.heap.size, 4, none⟩ (.int .i64 (f 4))) := ((((Kept.refl (fun x => x = w1.heap.size) w2).trans (Kept.set1 _ w1.heap.size 1 (.int .i64 (f 1))) (fun _ _ h => h)).trans (Kept.set1 _ w1.heap.size 2 (.int .i64 (f 2))) (fun _ _ h => h)).trans (Kept.set1 _ w1.heap.size 3 (.int .i64 (f 3))) (fun _ _ h => h)).trans (Kept.set1 _ w1.heap.size 4 (.int .i64 (f 4))) (fun _ _ h => h)
    have hWr : Ev ((((w2.setCell ⟨w1.heap.size, 1, none⟩ (.int .i64 (f 1))).setCell ⟨w1.heap.size, 2, none⟩ (.int .i64 (f 2))).setCell ⟨w1.heap.size, 3, none⟩ (.int .i64 (f 3))).setCell ⟨w1.heap.size, 4, none⟩ (.int .i64 (f 4))) w.heap.size noev := hrb2.kept hWk hne
    have hB4 : Below w.heap.size w ((((w2.setCell ⟨w1.heap.size, 1, none⟩ (.int .i64 (f 1))).setCell ⟨w1.heap.size, 2, none⟩ (.int .i64 (f 2))).setCell ⟨w1.heap.size, 3, none⟩ (.int .i64 (f 3))).setCell ⟨w1.heap.size, 4, none⟩ (.int .i64 (f 4))) := hB2.trans (hWk.below hB2.size (by intro x hx h; have := HZ.out; omega))
    have hz4 : w.heap.size ≤ (((((w2.setCell ⟨w1.heap.size, 1, none⟩ (.int .i64 (f 1))).setCell ⟨w1.heap.size, 2, none⟩ (.int .i64 (f 2))).setCell ⟨w1.heap.size, 3, none⟩ (.int .i64 (f 3))).setCell ⟨w1.heap.size, 4, none⟩ (.int .i64 (f 4)))).heap.size := hB4.size
    go_upto_region 2 with fail
    change Code.wp _ _ _ _ (w1.alloc (.cells (evc (ev0 1)) 24))
    rw [HW.out]
    go_upto_region 20 with fail
    change Code.wp _ _ _ _ ((((w2.setCell ⟨w1.heap.size, 1, none⟩ (.int .i64 (f 1))).setCell ⟨w1.heap.size, 2, none⟩ (.int .i64 (f 2))).setCell ⟨w1.heap.size, 3, none⟩ (.int .i64 (f 3))).setCell ⟨w1.heap.size, 4, none⟩ (.int .i64 (f 4)))
    generalize ((((w2.setCell ⟨w1.heap.size, 1, none⟩ (.int .i64 (f 1))).setCell ⟨w1.heap.size, 2, none⟩ (.int .i64 (f 2))).setCell ⟨w1.heap.size, 3, none⟩ (.int .i64 (f 3))).setCell ⟨w1.heap.size, 4, none⟩ (.int .i64 (f 4))) = w3 at *
    clear hfe hfr a0 a1 a2 a3 a4 a5 a6 a7 a8 a9 b0 b1 b2 b3 b4 b5 b6 b7 b8 b9 hWk
    obtain ⟨a0, a1, a2, a3, a4, a5, a6, a7, a8, a9⟩ := hW.ten
    obtain ⟨b0, b1, b2, b3, b4, b5, b6, b7, b8, b9⟩ := hWr.ten
    have hfe := hW.free
    have hfr := hWr.free
    have ev6 : Ev (set10 w3 w.heap.size (cpyK 1 f [1, 2, 3, 4])) w.heap.size (cpyK 1 f [1, 2, 3, 4]) := set10_ev hWr _
    have hB3 : Below w.heap.size w (set10 w3 w.heap.size (cpyK 1 f [1, 2, 3, 4])) := hB4.trans ((set10_kept w3 w.heap.size (cpyK 1 f [1, 2, 3, 4])).below hz4 (by intro x hx h; omega))
    clear hW hWr hB4 hB2
    generalize hgg : cpyK 1 f [1, 2, 3, 4] = g at *
    have HG := Lib.hid hgg
    clear hgg
    go_wp2_with fail
    change bodyPost _ _ _ _ _ (set10 w3 w.heap.size g)
    generalize set10 w3 w.heap.size g = w6 at *
    clear hfe hfr a0 a1 a2 a3 a4 a5 a6 a7 a8 a9 b0 b1 b2 b3 b4 b5 b6 b7 b8 b9
    obtain ⟨a0, a1, a2, a3, a4, a5, a6, a7, a8, a9⟩ := ev6.ten
    refine bodyPost_ret (by simp [results, Try.results16, go_sem, a0, a1, a2, a3, a4, a5, a6, a7, a8, a9]; try rfl) rfl ?_
    exact ⟨by rw [HG.out]; rfl, hB3⟩
  by_cases k2 : k = 2
  · subst k2
    obtain rfl : ps = [1, 5, 6, 7, 8, 9] := by rcases HA.out with h | h | h | h | h <;> first | exact h.2 | omega
    obtain rfl : n = 6 := hn
    obtain ⟨b, off, rfl, hb, hc⟩ := sl_at HS.out (by simp)
    have hb1 := (HP.out b hb).1
    have hb2 := (HP.out b hb).2
    have s0 : w2.cell? ⟨b, off, none⟩ = some (.int .i64 (f 1)) := hc 0 (by simp)
    have s1 : w2.cell? ⟨b, off + 1, none⟩ = some (.int .i64 (f 5)) := hc 1 (by simp)
    have s2 : w2.cell? ⟨b, off + 2, none⟩ = some (.int .i64 (f 6)) := hc 2 (by simp)
    have s3 : w2.cell? ⟨b, off + 3, none⟩ = some (.int .i64 (f 7)) := hc 3 (by simp)
    have s4 : w2.cell? ⟨b, off + 4, none⟩ = some (.int .i64 (f 8)) := hc 4 (by simp)
    have s5 : w2.cell? ⟨b, off + 5, none⟩ = some (.int .i64 (f 9)) := hc 5 (by simp)
    have hu : upd (upd (upd (upd (upd (upd (ev0 2) 1 (f 1)) 5 (f 5)) 6 (f 6)) 7 (f 7)) 8 (f 8)) 9 (f 9) = cpyK 2 f [1, 5, 6, 7, 8, 9] := by funext j; exact fin10 (P := fun j => (upd (upd (upd (upd (upd (upd (ev0 2) 1 (f 1)) 5 (f 5)) 6 (f 6)) 7 (f 7)) 8 (f 8)) 9 (f 9)) j = cpyK 2 f [1, 5, 6, 7, 8, 9] j) j rfl rfl rfl rfl rfl rfl rfl rfl rfl rfl
    have hW : Ev ((((((w2.setCell ⟨w1.heap.size, 1, none⟩ (.int .i64 (f 1))).setCell ⟨w1.heap.size, 5, none⟩ (.int .i64 (f 5))).setCell ⟨w1.heap.size, 6, none⟩ (.int .i64 (f 6))).setCell ⟨w1.heap.size, 7, none⟩ (.int .i64 (f 7))).setCell ⟨w1.heap.size, 8, none⟩ (.int .i64 (f 8))).setCell ⟨w1.heap.size, 9, none⟩ (.int .i64 (f 9))) w1.heap.size (cpyK 2 f [1, 5, 6, 7, 8, 9]) := hu ▸ (((((((HE.out).set 1 (f 1)).set 5 (f 5)).set 6 (f 6)).set 7 (f 7)).set 8 (f 8)).set 9 (f 9))
    have hWk : Kept (fun x => x = w1.heap.size) w2 ((((((w2.setCell ⟨w1.heap.size, 1, none⟩ (.int .i64 (f 1))).setCell ⟨w1.heap.size, 5, none⟩ (.int .i64 (f 5))).setCell ⟨w1.heap.size, 6, none⟩ (.int .i64 (f 6))).setCell ⟨w1.heap.size, 7, none⟩ (.int .i64 (f 7))).setCell ⟨w1.heap.size, 8, none⟩ (.int .i64 (f 8))).setCell ⟨w1.heap.size, 9, none⟩ (.int .i64 (f 9))) := ((((((Kept.refl (fun x => x = w1.heap.size) w2).trans (Kept.set1 _ w1.heap.size 1 (.int .i64 (f 1))) (fun _ _ h => h)).trans (Kept.set1 _ w1.heap.size 5 (.int .i64 (f 5))) (fun _ _ h => h)).trans (Kept.set1 _ w1.heap.size 6 (.int .i64 (f 6))) (fun _ _ h => h)).trans (Kept.set1 _ w1.heap.size 7 (.int .i64 (f 7))) (fun _ _ h => h)).trans (Kept.set1 _ w1.heap.size 8 (.int .i64 (f 8))) (fun _ _ h => h)).trans (Kept.set1 _ w1.heap.size 9 (.int .i64 (f 9))) (fun _ _ h => h)
    have hWr : Ev ((((((w2.setCell ⟨w1.heap.size, 1, none⟩ (.int .i64 (f 1))).setCell ⟨w1.heap.size, 5, none⟩ (.int .i64 (f 5))).setCell ⟨w1.heap.size, 6, none⟩ (.int .i64 (f 6))).setCell ⟨w1.heap.size, 7, none⟩ (.int .i64 (f 7))).setCell ⟨w1.heap.size, 8, none⟩ (.int .i64 (f 8))).setCell ⟨w1.heap.size, 9, none⟩ (.int .i64 (f 9))) w.heap.size noev := hrb2.kept hWk hne
    have hB4 : Below w.heap.size w ((((((w2.setCell ⟨w1.heap.size, 1, none⟩ (.int .i64 (f 1))).setCell ⟨w1.heap.size, 5, none⟩ (.int .i64 (f 5))).setCell ⟨w1.heap.size, 6, none⟩ (.int .i64 (f 6))).setCell ⟨w1.heap.size, 7, none⟩ (.int .i64 (f 7))).setCell ⟨w1.heap.size, 8, none⟩ (.int .i64 (f 8))).setCell ⟨w1.heap.size, 9, none⟩ (.int .i64 (f 9))) := hB2.trans (hWk.below hB2.size (by intro x hx h; have := HZ.out; omega))
    have hz4 : w.heap.size ≤ (((((((w2.setCell ⟨w1.heap.size, 1, none⟩ (.int .i64 (f 1))).setCell ⟨w1.heap.size, 5, none⟩ (.int .i64 (f 5))).setCell ⟨w1.heap.size, 6, none⟩ (.int .i64 (f 6))).setCell ⟨w1.heap.size, 7, none⟩ (.int .i64 (f 7))).setCell ⟨w1.heap.size, 8, none⟩ (.int .i64 (f 8))).setCell ⟨w1.heap.size, 9, none⟩ (.int .i64 (f 9)))).heap.size := hB4.size
    go_upto_region 2 with fail
    change Code.wp _ _ _ _ (w1.alloc (.cells (evc (ev0 2)) 24))
    rw [HW.out]
    go_upto_region 20 with fail
    change Code.wp _ _ _ _ ((((((w2.setCell ⟨w1.heap.size, 1, none⟩ (.int .i64 (f 1))).setCell ⟨w1.heap.size, 5, none⟩ (.int .i64 (f 5))).setCell ⟨w1.heap.size, 6, none⟩ (.int .i64 (f 6))).setCell ⟨w1.heap.size, 7, none⟩ (.int .i64 (f 7))).setCell ⟨w1.heap.size, 8, none⟩ (.int .i64 (f 8))).setCell ⟨w1.heap.size, 9, none⟩ (.int .i64 (f 9)))
    generalize ((((((w2.setCell ⟨w1.heap.size, 1, none⟩ (.int .i64 (f 1))).setCell ⟨w1.heap.size, 5, none⟩ (.int .i64 (f 5))).setCell ⟨w1.heap.size, 6, none⟩ (.int .i64 (f 6))).setCell ⟨w1.heap.size, 7, none⟩ (.int .i64 (f 7))).setCell ⟨w1.heap.size, 8, none⟩ (.int .i64 (f 8))).setCell ⟨w1.heap.size, 9, none⟩ (.int .i64 (f 9))) = w3 at *
    clear hfe hfr a0 a1 a2 a3 a4 a5 a6 a7 a8 a9 b0 b1 b2 b3 b4 b5 b6 b7 b8 b9 hWk
    obtain ⟨a0, a1, a2, a3, a4, a5, a6, a7, a8, a9⟩ := hW.ten
    obtain ⟨b0, b1, b2, b3, b4, b5, b6, b7, b8, b9⟩ := hWr.ten
    have hfe := hW.free
    have hfr := hWr.free
    have ev6 : Ev (set10 w3 w.heap.size (cpyK 2 f [1, 5, 6, 7, 8, 9])) w.heap.size (cpyK 2 f [1, 5, 6, 7, 8, 9]) := set10_ev hWr _
    have hB3 : Below w.heap.size w (set10 w3 w.heap.size (cpyK 2 f [1, 5, 6, 7, 8, 9])) := hB4.trans ((set10_kept w3 w.heap.size (cpyK 2 f [1, 5, 6, 7, 8, 9])).below hz4 (by intro x hx h; omega))
    clear hW hWr hB4 hB2
    generalize hgg : cpyK 2 f [1, 5, 6, 7, 8, 9] = g at *
    have HG := Lib.hid hgg
    clear hgg
    go_wp2_with fail
    change bodyPost _ _ _ _ _ (set10 w3 w.heap.size g)
    generalize set10 w3 w.heap.size g = w6 at *
    clear hfe hfr a0 a1 a2 a3 a4 a5 a6 a7 a8 a9 b0 b1 b2 b3 b4 b5 b6 b7 b8 b9
    obtain ⟨a0, a1, a2, a3, a4, a5, a6, a7, a8, a9⟩ := ev6.ten
    refine bodyPost_ret (by simp [results, Try.results16, go_sem, a0, a1, a2, a3, a4, a5, a6, a7, a8, a9]; try rfl) rfl ?_
    exact ⟨by rw [HG.out]; rfl, hB3⟩
  by_cases k3 : k = 3
  · subst k3
    obtain rfl : ps = [1, 3] := by rcases HA.out with h | h | h | h | h <;> first | exact h.2 | omega
    obtain rfl : n = 2 := hn
    obtain ⟨b, off, rfl, hb, hc⟩ := sl_at HS.out (by simp)
    have hb1 := (HP.out b hb).1
    have hb2 := (HP.out b hb).2
    have s0 : w2.cell? ⟨b, off, none⟩ = some (.int .i64 (f 1)) := hc 0 (by simp)
    have s1 : w2.cell? ⟨b, off + 1, none⟩ = some (.int .i64 (f 3)) := hc 1 (by simp)
    have hu : upd (upd (ev0 3) 1 (f 1)) 3 (f 3) = cpyK 3 f [1, 3] := by funext j; exact fin10 (P := fun j => (upd (upd (ev0 3) 1 (f 1)) 3 (f 3)) j = cpyK 3 f [1, 3] j) j rfl rfl rfl rfl rfl rfl rfl rfl rfl rfl
    have hW : Ev ((w2.setCell ⟨w1.heap.size, 1, none⟩ (.int .i64 (f 1))).setCell ⟨w1.heap.size, 3, none⟩ (.int .i64 (f 3))) w1.heap.size (cpyK 3 f [1, 3]) := hu ▸ (((HE.out).set 1 (f 1)).set 3 (f 3))
    have hWk : Kept (fun x => x = w1.heap.size) w2 ((w2.setCell ⟨w1.heap.size, 1, none⟩ (.int .i64 (f 1))).setCell ⟨w1.heap.size, 3, none⟩ (.int .i64 (f 3))) := ((Kept.refl (fun x => x = w1.heap.size) w2).trans (Kept.set1 _ w1.heap.size 1 (.int .i64 (f 1))) (fun _ _ h => h)).trans (Kept.set1 _ w1.heap.size 3 (.int .i64 (f 3))) (fun _ _ h => h)
    have hWr : Ev ((w2.setCell ⟨w1.heap.size, 1, none⟩ (.int .i64 (f 1))).setCell ⟨w1.heap.size, 3, none⟩ (.int .i64 (f 3))) w.heap.size noev := hrb2.kept hWk hne
    have hB4 : Below w.heap.size w ((w2.setCell ⟨w1.heap.size, 1, none⟩ (.int .i64 (f 1))).setCell ⟨w1.heap.size, 3, none⟩ (.int .i64 (f 3))) := hB2.trans (hWk.below hB2.size (by intro x hx h; have := HZ.out; omega))
    have hz4 : w.heap.size ≤ (((w2.setCell ⟨w1.heap.size, 1, none⟩ (.int .i64 (f 1))).setCell ⟨w1.heap.size, 3, none⟩ (.int .i64 (f 3)))).heap.size := hB4.size
    go_upto_region 2 with fail
    change Code.wp _ _ _ _ (w1.alloc (.cells (evc (ev0 3)) 24))
    rw [HW.out]
    go_upto_region 20 with fail
    change Code.wp _ _ _ _ ((w2.setCell ⟨w1.heap.size, 1, none⟩ (.int .i64 (f 1))).setCell ⟨w1.heap.size, 3, none⟩ (.int .i64 (f 3)))
    generalize ((w2.setCell ⟨w1.heap.size, 1, none⟩ (.int .i64 (f 1))).setCell ⟨w1.heap.size, 3, none⟩ (.int .i64 (f 3))) = w3 at *
    clear hfe hfr a0 a1 a2 a3 a4 a5 a6 a7 a8 a9 b0 b1 b2 b3 b4 b5 b6 b7 b8 b9 hWk
    obtain ⟨a0, a1, a2, a3, a4, a5, a6, a7, a8, a9⟩ := hW.ten
    obtain ⟨b0, b1, b2, b3, b4, b5, b6, b7, b8, b9⟩ := hWr.ten
    have hfe := hW.free
    have hfr := hWr.free
    have ev6 : Ev (set10 w3 w.heap.size (cpyK 3 f [1, 3])) w.heap.size (cpyK 3 f [1, 3]) := set10_ev hWr _
    have hB3 : Below w.heap.size w (set10 w3 w.heap.size (cpyK 3 f [1, 3])) := hB4.trans ((set10_kept w3 w.heap.size (cpyK 3 f [1, 3])).below hz4 (by intro x hx h; omega))
    clear hW hWr hB4 hB2
    generalize hgg : cpyK 3 f [1, 3] = g at *
    have HG := Lib.hid hgg
    clear hgg
    go_wp2_with fail
    change bodyPost _ _ _ _ _ (set10 w3 w.heap.size g)
    generalize set10 w3 w.heap.size g = w6 at *
    clear hfe hfr a0 a1 a2 a3 a4 a5 a6 a7 a8 a9 b0 b1 b2 b3 b4 b5 b6 b7 b8 b9
    obtain ⟨a0, a1, a2, a3, a4, a5, a6, a7, a8, a9⟩ := ev6.ten
    refine bodyPost_ret (by simp [results, Try.results16, go_sem, a0, a1, a2, a3, a4, a5, a6, a7, a8, a9]; try rfl) rfl ?_
    exact ⟨by rw [HG.out]; rfl, hB3⟩
  obtain rfl : ps = [1] := by rcases HA.out with h | h | h | h | h <;> first | exact h.2 | omega
  obtain rfl : n = 1 := hn
  obtain ⟨b, off, rfl, hb, hc⟩ := sl_at HS.out (by simp)
  have hb1 := (HP.out b hb).1
  have hb2 := (HP.out b hb).2
  have s0 : w2.cell? ⟨b, off, none⟩ = some (.int .i64 (f 1)) := hc 0 (by simp)
  have hu : upd (ev0 k) 1 (f 1) = cpyK k f [1] := by funext j; exact fin10 (P := fun j => (upd (ev0 k) 1 (f 1)) j = cpyK k f [1] j) j rfl rfl rfl rfl rfl rfl rfl rfl rfl rfl
  have hW : Ev (w2.setCell ⟨w1.heap.size, 1, none⟩ (.int .i64 (f 1))) w1.heap.size (cpyK k f [1]) := hu ▸ ((HE.out).set 1 (f 1))
  have hWk : Kept (fun x => x = w1.heap.size) w2 (w2.setCell ⟨w1.heap.size, 1, none⟩ (.int .i64 (f 1))) := (Kept.refl (fun x => x = w1.heap.size) w2).trans (Kept.set1 _ w1.heap.size 1 (.int .i64 (f 1))) (fun _ _ h => h)
  have hWr : Ev (w2.setCell ⟨w1.heap.size, 1, none⟩ (.int .i64 (f 1))) w.heap.size noev := hrb2.kept hWk hne
  have hB4 : Below w.heap.size w (w2.setCell ⟨w1.heap.size, 1, none⟩ (.int .i64 (f 1))) := hB2.trans (hWk.below hB2.size (by intro x hx h; have := HZ.out; omega))
  have hz4 : w.heap.size ≤ ((w2.setCell ⟨w1.heap.size, 1, none⟩ (.int .i64 (f 1)))).heap.size := hB4.size
  go_upto_region 2 with fail
  change Code.wp _ _ _ _ (w1.alloc (.cells (evc (ev0 k)) 24))
  rw [HW.out]
  go_upto_region 20 with fail
  change Code.wp _ _ _ _ (w2.setCell ⟨w1.heap.size, 1, none⟩ (.int .i64 (f 1)))
  generalize (w2.setCell ⟨w1.heap.size, 1, none⟩ (.int .i64 (f 1))) = w3 at *
  clear hfe hfr a0 a1 a2 a3 a4 a5 a6 a7 a8 a9 b0 b1 b2 b3 b4 b5 b6 b7 b8 b9 hWk
  obtain ⟨a0, a1, a2, a3, a4, a5, a6, a7, a8, a9⟩ := hW.ten
  obtain ⟨b0, b1, b2, b3, b4, b5, b6, b7, b8, b9⟩ := hWr.ten
  have hfe := hW.free
  have hfr := hWr.free
  have ev6 : Ev (set10 w3 w.heap.size (cpyK k f [1])) w.heap.size (cpyK k f [1]) := set10_ev hWr _
  have hB3 : Below w.heap.size w (set10 w3 w.heap.size (cpyK k f [1])) := hB4.trans ((set10_kept w3 w.heap.size (cpyK k f [1])).below hz4 (by intro x hx h; omega))
  clear hW hWr hB4 hB2
  generalize hgg : cpyK k f [1] = g at *
  have HG := Lib.hid hgg
  clear hgg
  go_wp2_with fail
  change bodyPost _ _ _ _ _ (set10 w3 w.heap.size g)
  generalize set10 w3 w.heap.size g = w6 at *
  clear hfe hfr a0 a1 a2 a3 a4 a5 a6 a7 a8 a9 b0 b1 b2 b3 b4 b5 b6 b7 b8 b9
  obtain ⟨a0, a1, a2, a3, a4, a5, a6, a7, a8, a9⟩ := ev6.ten
  refine bodyPost_ret (by simp [results, Try.results16, go_sem, a0, a1, a2, a3, a4, a5, a6, a7, a8, a9]; try rfl) rfl ?_
  exact ⟨by rw [HG.out]; rfl, hB3⟩
end Go.Proofs.Ytbdkbhicjbaffaa
