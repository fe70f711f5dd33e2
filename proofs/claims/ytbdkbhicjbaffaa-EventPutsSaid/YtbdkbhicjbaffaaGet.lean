/- The event that stands at the beginning of bytes. -/
import Derived.Test.YtbdkbhicjbaffaaPutE
namespace Go.Proofs.Ytbdkbhicjbaffaa
open Go.RowKit Go.Kpt WirePure
set_option linter.unusedVariables false

theorem rd_snoc (zs : List Nat) : ∀ (l : List (Fin 10)) (j : Fin 10) (f : Evt) (a e : Nat), rd zs (l ++ [j]) f a e =
    (upd (rd zs l f a e).1 j ((nxt (rd zs l f a e).2.2 zs most (rd zs l f a e).2.1).1 : Nat), (nxt (rd zs l f a e).2.2 zs most (rd zs l f a e).2.1).2.1, (nxt (rd zs l f a e).2.2 zs most (rd zs l f a e).2.1).2.2) := by
  intro l
  induction l with
  | nil => intro j f a e; rfl
  | cons i l ih => intro j f a e; simp only [List.cons_append, rd]; exact ih _ _ _ _

theorem nxt_small {e : Nat} {zs : List Nat} {mo at_ rn ra re : Nat} (h : nxt e zs mo at_ = (rn, ra, re)) : rn ≤ mo := by
  unfold nxt at h
  split at h
  · unfold res at h
    split at h
    · simp at h; omega
    · split at h <;> simp at h <;> omega
  · simp at h; omega

theorem rd_le (zs : List Nat) : ∀ (ps : List (Fin 10)) (f : Evt) (a e : Nat), a ≤ zs.length → (rd zs ps f a e).2.1 ≤ zs.length := by
  intro ps
  induction ps with
  | nil => intro f a e h; exact h
  | cons j ps ih =>
    intro f a e h
    unfold rd
    exact ih _ _ _ (nxt_le (rn := (nxt e zs most a).1) (re := (nxt e zs most a).2.2) rfl h)

/-- All cells of an event's block, stored one by one. -/
def set10 (w : World) (b : Nat) (g : Evt) : World :=
  ((((((((((w.setCell ⟨b, 0, none⟩ (.int .i64 (g 0))).setCell ⟨b, 1, none⟩ (.int .i64 (g 1))).setCell ⟨b, 2, none⟩ (.int .i64 (g 2))).setCell ⟨b, 3, none⟩ (.int .i64 (g 3))).setCell ⟨b, 4, none⟩ (.int .i64 (g 4))).setCell ⟨b, 5, none⟩ (.int .i64 (g 5))).setCell ⟨b, 6, none⟩ (.int .i64 (g 6))).setCell ⟨b, 7, none⟩ (.int .i64 (g 7))).setCell ⟨b, 8, none⟩ (.int .i64 (g 8))).setCell ⟨b, 9, none⟩ (.int .i64 (g 9)))
theorem set10_ev {w : World} {b : Nat} {f : Evt} (h : Ev w b f) (g : Evt) : Ev (set10 w b g) b g := by
  have := (((((((((h.set 0 (g 0)).set 1 (g 1)).set 2 (g 2)).set 3 (g 3)).set 4 (g 4)).set 5 (g 5)).set 6 (g 6)).set 7 (g 7)).set 8 (g 8)).set 9 (g 9)
  exact this
theorem set10_kept (w : World) (b : Nat) (g : Evt) : Kept (fun x => x = b) w (set10 w b g) := by
  unfold set10
  have k := fun (w : World) (i : Nat) (u : Value) => Kept.set1 w b i u
  exact (((((((((k w 0 _).trans (k _ 1 _) (fun _ _ h => h)).trans (k _ 2 _) (fun _ _ h => h)).trans (k _ 3 _) (fun _ _ h => h)).trans (k _ 4 _) (fun _ _ h => h)).trans (k _ 5 _) (fun _ _ h => h)).trans (k _ 6 _) (fun _ _ h => h)).trans (k _ 7 _) (fun _ _ h => h)).trans (k _ 8 _) (fun _ _ h => h)).trans (k _ 9 _) (fun _ _ h => h)

set_option maxRecDepth 100000 in
set_option maxHeartbeats 1000000 in
theorem one_any (r : Nat) (a : Option Addr) (cap : Nat) (zs : List Nat) (p : Nat → Prop) (w : World) (h : Rd w r a zs.length cap 0 0) (hsl : Sl .u8 w p a (ib zs)) (hp2 : ∀ x, p x → x ≠ r ∧ x < w.heap.size) (hcap : zs.length ≤ cap) (hz : zs.length ≤ 100000) (hcb : ∀ c ∈ zs, c < 256)
    (f : Evt) (n e0 : Nat) (hR : getR zs = (f, n, e0)) :
    Calls Try.prog 20 #[.pointer (some ⟨r, 0, none⟩)] w fun x w' => x = .returned (.tuple #[.agg (evc (if e0 = 0 then f else noev)), .int .i64 e0]) ∧ Rd w' r a zs.length cap n e0 ∧ Kept (fun x => x = r) w w' := by
  have hp : ∀ x, p x → x ≠ r := fun x hx => (hp2 x hx).1
  obtain ⟨x, hx⟩ : ∃ x, nxt 0 zs 9 0 = x := ⟨_, rfl⟩
  obtain ⟨k, a1, e1⟩ := x
  have hk9 := nxt_small hx
  have hR2 : rd zs (parts (k : Nat)) (ev0 (k : Nat)) a1 e1 = (f, n, e0) := by
    have := hR
    unfold getR at this
    rw [hx] at this
    exact this
  have ha1 := nxt_le hx (Nat.zero_le _)
  have HR := Lib.hid hR2
  have hrl := lt_of h
  have hnum := num_any r a cap 0 9 0 zs p
  have hn2 : Calls Try.prog 23 #[.pointer (some ⟨r, 0, none⟩), .int .u64 9] (w.alloc (.cells (evc noev) 24)) _ :=
    hnum _ (h.kept ((Kept.refl (fun _ => False) w).alloc _) (fun h => h)) (hsl.kept ((Kept.refl (fun _ => False) w).alloc _) (fun _ _ h => h)) hp (Nat.zero_le _) hcap hz hcb k a1 e1 hx
  have hEz : Ev (w.alloc (.cells (evc noev) 24)) w.heap.size noev := Ev.new _ _
  have hKz : Kept (fun x => x = r) w (w.alloc (.cells (evc noev) 24)) := (Kept.refl _ w).alloc _
  have hslz : Sl .u8 (w.alloc (.cells (evc noev) 24)) p a (ib zs) := hsl.kept ((Kept.refl (fun _ => False) w).alloc _) (fun _ _ h => h)
  have hzz : (w.alloc (.cells (evc noev) 24)).heap.size = w.heap.size + 1 := by simp
  clear hR hR2 hx hnum h hsl
  go_enter Try.func20, Try.ntmps20
  go_wp2_with fail
  change Calls _ _ _ (w.alloc (.cells (evc noev) 24)) _
  generalize w.alloc (.cells (evc noev) 24) = w1 at *
  refine hn2.mono ?_
  rintro e w2 ⟨rfl, hrd, hK⟩
  have hK2 := hKz.trans hK (fun _ _ h => h)
  have hE2 : Ev w2 w.heap.size noev := hEz.kept hK (by omega)
  have hsl2 := hslz.kept hK (fun x hx h => hp x hx h)
  have hz2 := hK.size
  have hwk : IntKind.i64.wrap (k : Int) = (k : Int) := IntWalk.i64_in _ ⟨by omega, by omega⟩
  clear hn2 hKz hEz hslz hK
  have hE3 : Ev (w2.alloc (.cells (evc (ev0 (k : Nat))) 24)) w2.heap.size (ev0 (k : Nat)) := Ev.new _ _
  have hK3 : Kept (fun x => x = r) w (w2.alloc (.cells (evc (ev0 (k : Nat))) 24)) := hK2.alloc _
  have hEz3 : Ev (w2.alloc (.cells (evc (ev0 (k : Nat))) 24)) w.heap.size noev := hE2.kept ((Kept.refl (fun _ => False) w2).alloc _) (fun h => h)
  have hrd3 : Rd (w2.alloc (.cells (evc (ev0 (k : Nat))) 24)) r a zs.length cap a1 e1 := hrd.kept ((Kept.refl (fun _ => False) w2).alloc _) (fun h => h)
  have hsl3 : Sl .u8 (w2.alloc (.cells (evc (ev0 (k : Nat))) 24)) p a (ib zs) := hsl2.kept ((Kept.refl (fun _ => False) w2).alloc _) (fun _ _ h => h)
  have hz3 : (w2.alloc (.cells (evc (ev0 (k : Nat))) 24)).heap.size = w2.heap.size + 1 := by simp
  go_wp2_with fail
  change Calls _ _ _ (w2.alloc (.cells (evc (ev0 (k : Nat))) 24)) _
  generalize w2.alloc (.cells (evc (ev0 (k : Nat))) 24) = w3 at *
  refine (parts_any _ _ w3 hE3).mono ?_
  rintro e w4 ⟨v, rfl, hpv, hB4⟩
  have k4 := Kept.of_below (F := fun _ => False) hB4
  obtain ⟨g, rfl, hg1, hg2, hg3⟩ := hpv.ok (show kOK (ev0 (k : Nat) 0) from ⟨Int.natCast_nonneg _, by show (k : Int) ≤ 9; omega⟩)
  rw [show (ev0 (k : Nat)) 0 = (k : Int) from rfl] at hg3 ⊢
  have hK4 : Kept (fun x => x = r) w w4 := hK3.trans k4 (fun _ _ h => h.elim)
  have hEz4 := hEz3.kept k4 (fun h => h)
  have hE4 := hE3.kept k4 (fun h => h)
  have hrd4 : Rd w4 r a zs.length cap a1 e1 := hrd3.kept k4 (fun h => h)
  have hsl4 := hsl3.kept k4 (fun _ _ h => h)
  have hz4 := hB4.size
  have hn6 := parts_len (k : Nat)
  generalize parts (k : Nat) = ps at *
  obtain ⟨m, hm⟩ : ∃ m, ps.length = m := ⟨_, rfl⟩
  rw [hm] at hn6 ⊢
  generalize ev0 (k : Nat) = g0 at *
  obtain ⟨bb, hbb⟩ : ∃ bb, w2.heap.size = bb := ⟨_, rfl⟩
  rw [hbb] at hE4 hg3 ⊢
  have q1 : bb ≠ r := by omega
  have q2 : g ≠ r := by omega
  have q3 : g ≠ bb := by omega
  have q4 : w.heap.size ≠ r := by omega
  have q5 : w.heap.size ≠ bb := by omega
  have q6 : bb < w4.heap.size := by omega
  have q7 : w.heap.size < w4.heap.size := by omega
  have q8 : w.heap.size ≤ bb := by omega
  have hpb : ∀ x, p x → x ≠ bb := fun x hx => by have := (hp2 x hx).2; omega
  clear hE3 hK3 hEz3 hrd3 hsl3 hpv hB4 k4 hsl2 hE2 hrd hK2 hzz hz2 hz3 hz4 hwk hbb hg1
  go_wp2_with fail
  go_loopw [13] (fun x wr => ∃ i : Nat, x = .int .i64 i ∧ i ≤ m ∧ Kept (fun x => x = r ∨ x = bb) w4 wr ∧ Ev wr bb (rd zs (ps.take i) g0 a1 e1).1 ∧ Rd wr r a zs.length cap (rd zs (ps.take i) g0 a1 e1).2.1 (rd zs (ps.take i) g0 a1 e1).2.2) (fun x _ => m - (intOf x).toNat)
  case atStart => exact ⟨0, rfl, by omega, Kept.refl _ _, hE4, hrd4⟩
  case round =>
    obtain ⟨i, rfl, hi, hK, hev, hrd⟩ := hrel
    clear hE4 hrd4
    by_cases hin : i < m
    · have c1 : wr.cell? ⟨g, i, none⟩ = _ := (hK.cell (p := ⟨g, i, none⟩) hg2 (show ¬ (g = r ∨ g = bb) by omega)).trans (hg3 i (by omega))
      have ht := take_snoc ps i (by omega) 0
      have hs := rd_snoc zs (ps.take i) (ps.getD i 0) g0 a1 e1
      rw [← ht] at hs
      have hle := rd_le zs (ps.take i) g0 a1 e1 ha1
      generalize ps.getD i 0 = j at *
      obtain ⟨y, hy⟩ : ∃ y, rd zs (ps.take i) g0 a1 e1 = y := ⟨_, rfl⟩
      obtain ⟨g2, a2, e2⟩ := y
      rw [hy] at hev hrd hs hle
      dsimp only at hev hrd hs hle
      obtain ⟨y, hx⟩ : ∃ y, nxt e2 zs most a2 = y := ⟨_, rfl⟩
      obtain ⟨rn, ra, re⟩ := y
      rw [hx] at hs
      dsimp only at hs
      have hsm := nxt_small hx
      unfold most at hsm hx
      have hsl5 : Sl .u8 wr p a (ib zs) := hsl4.kept hK (fun x hx h => h.elim (fun h => hp x hx h) (fun h => hpb x hx h))
      have hnum := num_any r a cap a2 2147483647 e2 zs p wr hrd hsl5 hp hle hcap hz hcb rn ra re hx
      have hwr : IntKind.i64.wrap (rn : Int) = (rn : Int) := IntWalk.i64_in _ ⟨by omega, by omega⟩
      have HS := Lib.hid hs
      clear hs hx hy ht
      go_wp2_with fail
      refine hnum.mono ?_
      rintro e w5 ⟨rfl, hrd5, hK5⟩
      have hev5 := hev.kept hK5 q1
      have d2 : w5.frozen? ⟨bb, j.val, none⟩ = false := hev5.free j
      have d3 := hev5.cell j
      have hev6 := hev5.set j (rn : Int)
      have hrd6 : Rd (w5.setCell ⟨bb, j.val, none⟩ (.int .i64 (rn : Int))) r a zs.length cap ra re := hrd5.kept (Kept.set1 w5 bb j.val (.int .i64 (rn : Int))) (Ne.symm q1)
      have hK6 : Kept (fun x => x = r ∨ x = bb) w4 (w5.setCell ⟨bb, j.val, none⟩ (.int .i64 (rn : Int))) := (hK.trans hK5 (fun x _ h => .inl h)).trans (Kept.set1 w5 bb j.val (.int .i64 (rn : Int))) (fun x _ h => .inr h)
      clear hnum hev hrd hev5 hrd5
      go_wp2_with fail
      go_roundw
      case rel => exact ⟨i + 1, by go_num, by omega, hK6, by rw [HS.out]; exact hev6, by rw [HS.out]; exact hrd6⟩
      case measure => simp [intOf]; omega
    · obtain rfl : i = m := by omega
      rw [List.take_of_length_le (by omega), HR.out] at hev hrd
      dsimp only at hev hrd
      have ez := hEz4.kept hK (show ¬ (w.heap.size = r ∨ w.heap.size = bb) by omega)
      have herr := err_any r a zs.length cap n e0 wr hrd
      obtain ⟨a0, a1, a2, a3, a4, a5, a6, a7, a8, a9⟩ := hev.ten
      obtain ⟨b0, b1, b2, b3, b4, b5, b6, b7, b8, b9⟩ := ez.ten
      have hfz := ez.free
      by_cases he : e0 = 0
      · subst he
        go_wp2_with fail
        refine herr.mono ?_
        rintro e w5 ⟨rfl, rfl⟩
        go_wp2_with fail
        change bodyPost _ _ _ _ _ (set10 wr w.heap.size f)
        generalize hw6 : set10 wr w.heap.size f = w6
        have ev6 : Ev w6 w.heap.size f := hw6 ▸ set10_ev ez f
        have k6 : Kept (fun x => x = w.heap.size) wr w6 := hw6 ▸ set10_kept wr w.heap.size f
        have hrd6 := hrd.kept k6 (Ne.symm q4)
        have hK6 : Kept (fun x => x = r) w w6 := (hK4.trans hK (fun x hx h => h.elim (fun h => h) (fun h => absurd h (by omega)))).trans k6 (fun x hx h => absurd h (by omega))
        clear ez hfz a0 a1 a2 a3 a4 a5 a6 a7 a8 a9 b0 b1 b2 b3 b4 b5 b6 b7 b8 b9
        obtain ⟨a0, a1, a2, a3, a4, a5, a6, a7, a8, a9⟩ := ev6.ten
        refine bodyPost_ret (by simp [results, Try.results20, go_sem, a0, a1, a2, a3, a4, a5, a6, a7, a8, a9]; try rfl) rfl ?_
        exact ⟨rfl, hrd6, hK6⟩
      · have e1 : ((e0 : Int) != 0) = true := by simp; omega
        go_wp2_with fail
        refine herr.mono ?_
        rintro e w5 ⟨rfl, rfl⟩
        go_wp2_with fail
        refine herr.mono ?_
        rintro e w5 ⟨rfl, rfl⟩
        go_wp2_with fail
        change bodyPost _ _ _ _ _ (set10 wr w.heap.size noev)
        generalize hw6 : set10 wr w.heap.size noev = w6
        have ev6 : Ev w6 w.heap.size noev := hw6 ▸ set10_ev ez noev
        have k6 : Kept (fun x => x = w.heap.size) wr w6 := hw6 ▸ set10_kept wr w.heap.size noev
        have hrd6 := hrd.kept k6 (Ne.symm q4)
        have hK6 : Kept (fun x => x = r) w w6 := (hK4.trans hK (fun x hx h => h.elim (fun h => h) (fun h => absurd h (by omega)))).trans k6 (fun x hx h => absurd h (by omega))
        clear ez hfz a0 a1 a2 a3 a4 a5 a6 a7 a8 a9 b0 b1 b2 b3 b4 b5 b6 b7 b8 b9
        obtain ⟨a0, a1, a2, a3, a4, a5, a6, a7, a8, a9⟩ := ev6.ten
        refine bodyPost_ret (by simp [results, Try.results20, go_sem, a0, a1, a2, a3, a4, a5, a6, a7, a8, a9]; try rfl) rfl ?_
        exact ⟨rfl, hrd6, hK6⟩
end Go.Proofs.Ytbdkbhicjbaffaa
