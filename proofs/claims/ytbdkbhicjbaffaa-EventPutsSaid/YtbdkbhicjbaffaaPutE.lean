/- An event's bytes behind others. -/
import Derived.Test.YtbdkbhicjbaffaaRight
namespace Go.Proofs.Ytbdkbhicjbaffaa
open Go.RowKit Go.Kpt WirePure
set_option linter.unusedVariables false

def encP (f : Evt) (l : List (Fin 10)) : List Nat := l.flatMap fun j => enc (f j).toNat
theorem encP_snoc (f : Evt) (l : List (Fin 10)) (j : Fin 10) : encP f (l ++ [j]) = encP f l ++ enc (f j).toNat := by simp [encP]
theorem encP_len (f : Evt) (l : List (Fin 10)) (h : ∀ j ∈ l, 0 ≤ f j ∧ f j ≤ 2147483647) : (encP f l).length ≤ 10 * l.length := by
  induction l with
  | nil => simp [encP]
  | cons j l ih =>
    have := ih (fun i hi => h i (List.mem_cons_of_mem _ hi))
    have hj := h j (List.mem_cons_self ..)
    have := enc_len_ten (n := (f j).toNat) (by omega)
    show (enc (f j).toNat ++ encP f l).length ≤ _
    rw [List.length_append, List.length_cons]; omega
theorem encE_len {f : Evt} (h : right f) : (encE f).length ≤ 70 := by
  have h1 := encP_len f _ h.2.1
  have h2 := parts_len (f 0)
  have h3 := enc_len_ten (n := (f 0).toNat) (by have := h.1; omega)
  show (enc (f 0).toNat ++ encP f (parts (f 0))).length ≤ _
  rw [List.length_append]; omega

set_option maxRecDepth 100000 in
set_option maxHeartbeats 1000000 in
theorem putE_no (a : Option Addr) (cap len : Nat) (f : Evt) (w : World) (hr : ¬ right f) :
    Calls Try.prog 10 #[.slice a len cap, .agg (evc f)] w fun e w' => e = .returned (.slice a len cap) ∧ Below w.heap.size w w' := by
  go_enter Try.func10, Try.ntmps10
  have hE := Ev.new w f
  obtain ⟨a0, a1, a2, a3, a4, a5, a6, a7, a8, a9⟩ := hE.ten
  go_wp2_with fail
  have hB : Below w.heap.size w (w.alloc (.cells (evc f) 24)) := by go_grown
  have hz : (w.alloc (.cells (evc f) 24)).heap.size = w.heap.size + 1 := by simp
  generalize w.alloc (.cells (evc f) 24) = w1 at *
  refine (right_any f w1).mono ?_
  rintro e w2 ⟨rfl, hB2⟩
  have hd : decide (right f) = false := decide_eq_false hr
  rw [hd]
  go_wp2_with fail
  go_ret
  exact ⟨rfl, hB.trans (hB2.mono (by omega))⟩

set_option maxRecDepth 100000 in
set_option maxHeartbeats 1000000 in
theorem putE_any (a : Option Addr) (cap : Nat) (zs : List Nat) (f : Evt) (p : Nat → Prop) (w : World) (hsl : Sl .u8 w p a (ib zs)) (hz0 : zs.length ≤ 9000) (hr : right f) (hp : ∀ x, p x → x < w.heap.size) :
    Calls Try.prog 10 #[.slice a zs.length cap, .agg (evc f)] w fun e w' => ∃ v, e = .returned v ∧ OwnI w' w.heap.size 5 .u8 v (ib (zs ++ encE f)) ∧ Below w.heap.size w w' := by
  have hrr := Lib.hid hr
  clear hr
  go_enter Try.func10, Try.ntmps10
  have hE := Ev.new w f
  obtain ⟨a0, a1, a2, a3, a4, a5, a6, a7, a8, a9⟩ := hE.ten
  go_wp2_with fail
  have hB : Below w.heap.size w (w.alloc (.cells (evc f) 24)) := by go_grown
  have hz : (w.alloc (.cells (evc f) 24)).heap.size = w.heap.size + 1 := by simp
  have hsl1 : Sl .u8 (w.alloc (.cells (evc f) 24)) p a (ib zs) := hsl.kept ((Kept.refl (fun _ => False) w).alloc _) (fun _ _ h => h)
  generalize w.alloc (.cells (evc f) 24) = w1 at *
  refine (right_any f w1).mono ?_
  rintro e w2 ⟨rfl, hB2⟩
  have hd : decide (right f) = true := decide_eq_true hrr.out
  have hk2 := Kept.of_below (F := fun _ => False) hB2
  have hE2 : Ev w2 w.heap.size f := hE.kept hk2 (fun h => h)
  have hsl2 := hsl1.kept hk2 (fun _ _ h => h)
  have hB3 : Below w.heap.size w w2 := hB.trans (hB2.mono (by omega))
  have hz2 := hB2.size
  clear a0 a1 a2 a3 a4 a5 a6 a7 a8 a9 hE hsl1 hk2 hB hB2 hsl
  rw [hd]
  have c0 : w2.cell? ⟨w.heap.size, 0, none⟩ = some (.int .i64 (f 0)) := hE2.cell 0
  obtain ⟨k, hk⟩ : ∃ k : Nat, (f 0).toNat = k := ⟨_, rfl⟩
  have h09 := hrr.out.1
  have hfk : f 0 = (k : Int) := by omega
  have hwk : IntKind.u64.wrap (k : Int) = (k : Int) := IntWalk.u64_in _ ⟨by omega, by omega⟩
  rw [hfk] at c0
  have hEE : Hid (encE f = enc k ++ encP f (parts (f 0))) := Lib.hid (by unfold encE; rw [hk]; rfl)
  have hkk : kOK (f 0) := h09
  have hten := enc_len_ten (n := k) (by omega)
  have hput := put_any a cap zs k (by omega) p w2 hsl2 (by omega)
  clear h09
  go_wp2_with fail
  refine hput.mono ?_
  rintro e w3 ⟨v, rfl, hown, hB4⟩
  have hE3 : Ev w3 w.heap.size f := hE2.kept (Kept.of_below (F := fun _ => False) hB4) (fun h => h)
  have hz3 := hB4.size
  have hB5 : Below w.heap.size w w3 := hB3.trans (hB4.mono (by omega))
  have hown : OwnI w3 w.heap.size 5 .u8 v (ib (zs ++ enc k)) := hown.mono (by omega)
  clear hB3 hB4 hE2 hput hsl2 c0 hwk
  go_wp2_with fail
  refine (parts_any _ _ w3 hE3).mono ?_
  rintro e w4 ⟨v4, rfl, hpv, hB6⟩
  obtain ⟨g, rfl, hg1, hg2, hg3⟩ := hpv.ok hkk
  have hk6 := Kept.of_below (F := fun _ => False) hB6
  have hE4 : Ev w4 w.heap.size f := hE3.kept hk6 (fun h => h)
  have hown : OwnI w4 w.heap.size 5 .u8 v (ib (zs ++ enc k)) := hown.kept hk6 (fun _ _ h => h)
  have hz4 := hB6.size
  have hB7 : Below w.heap.size w w4 := hB5.trans (hB6.mono (by omega))
  have hpp := hrr.out.2.1
  have hl7 := encP_len f _ hpp
  have hn6 := parts_len (f 0)
  generalize parts (f 0) = ps at *
  have hPP := Lib.hid hpp
  obtain ⟨n, hn⟩ : ∃ n, ps.length = n := ⟨_, rfl⟩
  rw [hn] at hn6 ⊢
  clear hE3 hpv hB6 hk6 hB5 hpp hrr hkk
  go_wp2_with fail
  go_loopw [0, 18] (fun x y wr => ∃ i : Nat, y = .int .i64 i ∧ i ≤ n ∧ Kept (fun _ => False) w4 wr ∧ OwnI wr w.heap.size 5 .u8 x (ib (zs ++ enc k ++ encP f (ps.take i))) ∧ Below w.heap.size w wr) (fun _ y _ => n - (intOf y).toNat)
  case atStart => exact ⟨0, rfl, by omega, Kept.refl _ _, by simpa [encP] using hown, hB7⟩
  case round =>
    obtain ⟨i, rfl, hi, hK, hox, hBr⟩ := hrel
    by_cases hin : i < n
    · have ef := hE4.kept hK (fun h => h)
      have c1 : wr.cell? ⟨g, i, none⟩ = _ := (hK.cell (p := ⟨g, i, none⟩) hg2 (fun h => h)).trans (hg3 i (by omega))
      have hj : ps.getD i 0 ∈ ps := getD_mem ps i (by omega) 0
      have ht := take_snoc ps i (by omega) 0
      have hPj := hPP.out _ hj
      have hlt := encP_len f (ps.take i) (fun j hj => hPP.out j (List.mem_of_mem_take hj))
      rw [List.length_take] at hlt
      generalize ps.getD i 0 = j at *
      have d1 := ef.cell j
      obtain ⟨m, hm⟩ : ∃ m : Nat, (f j).toNat = m := ⟨_, rfl⟩
      have hfm : f j = (m : Int) := by omega
      have hwm : IntKind.u64.wrap (m : Int) = (m : Int) := IntWalk.u64_in _ ⟨by omega, by omega⟩
      rw [hfm] at d1
      have hE5 : Hid (encP f (ps.take (i + 1)) = encP f (ps.take i) ++ enc m) := Lib.hid (by rw [ht, encP_snoc, hm])
      obtain ⟨xs, hxs⟩ : ∃ xs, zs ++ enc k ++ encP f (ps.take i) = xs := ⟨_, rfl⟩
      have hlx : xs.length ≤ 9100 := by rw [← hxs]; simp; omega
      rw [hxs] at hox
      obtain ⟨a2, cap2, rfl, hle, hmx, hsl3⟩ := hox.sl
      rw [ib_length] at hle
      rw [ib_length]
      have hput := put_any a2 cap2 xs m (by omega) _ wr hsl3 (by omega)
      have hzr := hK.size
      have hXS := Lib.hid hxs
      clear hox hPj hxs hown
      go_wp2_with fail
      refine hput.mono ?_
      rintro e w5 ⟨v5, rfl, hown5, hB8⟩
      have hown5 : OwnI w5 w.heap.size 5 .u8 v5 (ib (zs ++ enc k ++ encP f (ps.take (i + 1)))) := by
        rw [hE5.out, ← List.append_assoc, hXS.out]
        exact hown5.mono (by omega)
      have hK5 : Kept (fun _ => False) w4 w5 := hK.trans (Kept.of_below hB8) (fun _ _ h => h)
      have hB9 : Below w.heap.size w w5 := hBr.trans (hB8.mono (by omega))
      clear hput hE5 hXS hB8 hsl3
      go_wp2_with fail
      go_roundw
      case rel => exact ⟨i + 1, rfl, by omega, hK5, hown5, hB9⟩
      case measure => simp [intOf]; omega
    · obtain rfl : i = n := by omega
      rw [List.take_of_length_le (by omega), List.append_assoc, ← hEE.out] at hox
      go_wp2_with fail
      go_ret
      exact ⟨_, rfl, hox, hBr⟩
end Go.Proofs.Ytbdkbhicjbaffaa
