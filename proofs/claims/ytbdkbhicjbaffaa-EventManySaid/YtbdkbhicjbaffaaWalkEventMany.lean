/- As many events as there may be, and more: the walk. -/
import Derived.Test.YtbdkbhicjbaffaaLawB
import Derived.Test.YtbdkbhicjbaffaaAll
import Derived.Test.YtbdkbhicjbaffaaBits
namespace Go.Proofs.Ytbdkbhicjbaffaa
open Go.RowKit Go.Kpt WirePure
set_option linter.unusedVariables false

theorem enc_noev : encE noev = [0] := by
  have h : encE noev = enc 0 ++ [] := rfl
  rw [h, enc_small (by omega)]; rfl
theorem right_noev : right noev := by decide
theorem enc_zeros (n : Nat) : (List.replicate n noev).flatMap encE = List.replicate n 0 := by
  induction n with
  | zero => rfl
  | succ n ih => rw [List.replicate_succ, List.flatMap_cons, ih, enc_noev, List.replicate_succ]; rfl
theorem all_zeros {n : Nat} (h : n ≤ 16384) : allB (List.replicate n 0) = (List.replicate n noev, n, 0) := by
  have := allE_enc (List.replicate n noev) n 0 (fun f hf => by rw [(List.mem_replicate.1 hf).2]; exact right_noev) (by simpa using h) (by rw [enc_zeros]; simp)
  rw [enc_zeros, List.length_replicate] at this
  unfold allB
  rw [List.length_replicate]
  exact this
theorem all_zeros_more {n : Nat} (h : 16384 < n) : ∃ L, allB (List.replicate n 0) = (L, 16384, 6) ∧ L.length = 16384 := by
  have := allE_many (List.replicate n noev) n 0 (fun f hf => by rw [(List.mem_replicate.1 hf).2]; exact right_noev) (by omega) (by simpa using h) (by rw [enc_zeros]; simp)
  rw [List.take_replicate, enc_zeros, enc_zeros, List.length_replicate, show min (16384 - 0) n = 16384 by omega] at this
  unfold allB
  rw [List.length_replicate]
  exact ⟨_, this, List.length_replicate⟩

theorem made_sl {w : World} {base : Nat} {g n : Nat} (h : w.ownsRow base 5 1 (.slice (some ⟨g, 0, none⟩) n n) n (madeCells #[.int .u8 0] (n * 1)).toList) : Sl .u8 w (fun x => x = g) (some ⟨g, 0, none⟩) (ib (List.replicate n 0)) := by
  intro i hi
  have hi' : i < n := by simpa [ib] using hi
  refine ⟨g, 0, rfl, rfl, ?_⟩
  have := World.ownsRow.cellAt h i (by simpa using hi')
  rw [Nat.zero_add, this]
  simp [madeCells, ib, hi', Nat.mod_one]

set_option maxRecDepth 100000 in
set_option maxHeartbeats 1000000 in
theorem eventMany_walk (a0 : Int) (w : World) (w0 : (Lit.int .i64 a0).wf = true) : Calls Try.prog 6 #[.int .i64 a0] w fun e w' => e = .returned (.bool true) ∧ Below w.heap.size w w' := by
  obtain ⟨i0, hi0, hz0, hz1, hz2⟩ := info_parts Try.info5
  have hb7 := i64_and7 a0
  obtain ⟨k, hk⟩ : ∃ k : Nat, (a0 % 8).toNat = k := ⟨_, rfl⟩
  have hk7 : k ≤ 7 := by omega
  have hka : a0 % 8 = (k : Int) := by omega
  rw [hka] at hb7
  obtain ⟨n, hn⟩ : ∃ n, 16381 + k = n := ⟨_, rfl⟩
  have e1 : (16381 : Int) + (k : Int) = (n : Int) := by omega
  have e2 : IntKind.i64.wrap (n : Int) = (n : Int) := IntWalk.i64_in _ ⟨by omega, by omega⟩
  obtain ⟨L, N, E, hall, hlen, hcase⟩ : ∃ (L : List Evt) (N E : Nat), allB (List.replicate n 0) = (L, N, E) ∧ L.length = N ∧ ((16384 < n ∧ N = 16384 ∧ E = 6) ∨ (¬ 16384 < n ∧ N = n ∧ E = 0)) := by
    by_cases h : 16384 < n
    · obtain ⟨L, h1, h2⟩ := all_zeros_more h
      exact ⟨L, _, _, h1, h2, .inl ⟨h, rfl, rfl⟩⟩
    · exact ⟨_, _, _, all_zeros (by omega), by simp, .inr ⟨h, rfl, rfl⟩⟩
  have hA := Lib.hid hall
  have hnl : n ≤ 16388 := by omega
  clear hk hka hall w0
  go_enter Try.func6, Try.ntmps6
  go_wp2_with fail
  refine (head_any _).mono ?_
  rintro e w1 ⟨rfl, hB1⟩
  go_wp2_with (at_make; refine wpList_make_full w1 rfl _ _ 25 rfl w1.heap.size 5 i0 (.int .u8 0) 1 Try.underlying25 hi0 hz0 hz1 .i64 .i64 n n n rfl rfl rfl rfl (by rw [hz2]; omega) (by unfold maxLen; omega) (Nat.le_refl _) ?_; intro w2 hown hgrow)
  have hsl := made_sl hown
  have hB2 : Below w.heap.size w w2 := hB1.trans ((Kept.of_grown hgrow).below hB1.size (fun x hx h => by cases h))
  have hg : w1.heap.size < w2.heap.size := (World.ownsRow.lt hown _ rfl).2
  have hcall := all_any (some ⟨w1.heap.size, 0, none⟩) n (List.replicate n 0) _ w2 hsl (fun x hx => by rw [hx]; exact hg) (by simp) (by simp; omega) (fun c hc => by rw [(List.mem_replicate.1 hc).2]; omega) L N E hA.out
  rw [List.length_replicate] at hcall
  clear hown hgrow hsl
  go_wp2_with fail
  refine hcall.mono ?_
  clear hcall
  rintro e w3 ⟨v, rfl, hownE, hB3⟩
  have hB4 : Below w.heap.size w w3 := hB2.trans (hB3.mono hB2.size)
  obtain ⟨a, cap, rfl, hle, hmx, -⟩ := hownE.se
  rw [hlen] at hle ⊢
  rcases hcase with ⟨h1, rfl, rfl⟩ | ⟨h1, rfl, rfl⟩
  · have c1 : (16384 : Int) < (n : Int) := by omega
    go_wp2_with fail
    go_ret
    exact ⟨rfl, hB4⟩
  · have c1 : ¬ (16384 : Int) < (N : Int) := by omega
    go_wp2_with fail
    go_ret
    exact ⟨rfl, hB4⟩
end Go.Proofs.Ytbdkbhicjbaffaa
