/- A greater number never has fewer bytes; none has more than ten: the walk. -/
import Derived.Test.YtpecjoalahgfpaaWalks3
namespace Go.Proofs.Ytpecjoalahgfpaa
open Go.RowKit Go.Kpt WirePure
set_option linter.unusedVariables false

theorem u64_nat {n : Int} (h : (Lit.int .u64 n).wf = true) : ∃ m : Nat, n = m ∧ m < 18446744073709551616 := by
  obtain ⟨h0, h1⟩ := bounds_u64 h
  exact ⟨n.toNat, by omega, by omega⟩

/-- A number's bytes from nothing. -/
theorem put_nil (n : Nat) (hn : n < 18446744073709551616) (w : World) :
    Calls Try.prog 11 #[.slice none 0 0, .int .u64 n] w fun e w' => ∃ v, e = .returned v ∧ OwnI w' w.heap.size 5 .u8 v (ib (enc n)) ∧ Below w.heap.size w w' :=
  put_any none 0 [] n hn (fun _ => True) w (fun i hi => by simp [ib] at hi) (by simp)

set_option maxRecDepth 100000 in
set_option maxHeartbeats 1000000 in
theorem wireSizes_any (a b : Nat) (ha : a < 18446744073709551616) (hb : b < 18446744073709551616) (w : World) :
    Calls Try.prog 6 #[.int .u64 a, .int .u64 b] w fun e w' => e = .returned (.bool true) ∧ Below w.heap.size w w' := by
  have hpa := put_nil a ha
  have hpb := put_nil b hb
  have l1 := enc_len_pos a
  have l2 := enc_len_ten ha
  have l3 : a ≤ b → (enc a).length ≤ (enc b).length := fun h => enc_len_mono 10 a b h (by omega)
  have l4 : a < 128 → (enc a).length = 1 := fun h => by rw [enc_small h]; rfl
  have l5 : ¬ a < 128 → 1 < (enc a).length := fun h => by rw [enc_big h]; have := enc_len_pos (a / 128); simp; omega
  go_enter Try.func6, Try.ntmps6
  go_wp2_with fail
  refine (head_any _).mono ?_
  rintro e w1 ⟨rfl, hB1⟩
  go_wp2_with fail
  refine (hpa _).mono ?_
  rintro e w2 ⟨v1, rfl, ho1, hB2⟩
  obtain ⟨p1, c1, rfl, -, -, -⟩ := ho1.sl
  go_wp2_with fail
  refine (hpb _).mono ?_
  rintro e w3 ⟨v2, rfl, ho2, hB3⟩
  obtain ⟨p2, c2, rfl, -, -, -⟩ := ho2.sl
  rw [ib_length, ib_length]
  have hZ : Below w.heap.size w w3 := (hB1.trans (hB2.mono hB1.size)).trans (hB3.mono (Nat.le_trans hB1.size hB2.size))
  clear ho1 ho2 hpa hpb
  generalize (enc a).length = L at *
  generalize (enc b).length = M at *
  have f1 : ¬ (L : Int) < 1 := by omega
  have f2 : ¬ (10 : Int) < (L : Int) := by omega
  by_cases h1 : a < 128
  · have g1 : (a : Int) < 128 := by omega
    obtain rfl := l4 h1
    clear l4 l5
    by_cases h2 : a ≤ b
    · have g2 : (a : Int) ≤ (b : Int) := by omega
      have g5 := l3 h2
      have g6 : ¬ (M : Int) < 1 := by omega
      clear l3
      go_wp2_with fail
      go_ret
      exact ⟨rfl, hZ⟩
    · have g2 : ¬ (a : Int) ≤ (b : Int) := by omega
      go_wp2_with fail
      go_ret
      exact ⟨rfl, hZ⟩
  · have g1 : ¬ (a : Int) < 128 := by omega
    have g3 : (128 : Int) ≤ (a : Int) := by omega
    have hL := l5 h1
    have g4 : (1 : Int) < (L : Int) := by omega
    clear l4 l5
    by_cases h2 : a ≤ b
    · have g2 : (a : Int) ≤ (b : Int) := by omega
      have g5 := l3 h2
      have g6 : ¬ (M : Int) < (L : Int) := by omega
      go_wp2_with fail
      go_ret
      exact ⟨rfl, hZ⟩
    · have g2 : ¬ (a : Int) ≤ (b : Int) := by omega
      go_wp2_with fail
      go_ret
      exact ⟨rfl, hZ⟩

theorem wireSizes_walk (a0 a1 : Int) (w : World) (w0 : (Lit.int .u64 a0).wf = true) (w1 : (Lit.int .u64 a1).wf = true) :
    Calls Try.prog 6 #[.int .u64 a0, .int .u64 a1] w fun e w' => e = .returned (.bool true) ∧ Below w.heap.size w w' := by
  obtain ⟨a, rfl, ha⟩ := u64_nat w0
  obtain ⟨b, rfl, hb⟩ := u64_nat w1
  exact wireSizes_any a b ha hb w
end Go.Proofs.Ytpecjoalahgfpaa
