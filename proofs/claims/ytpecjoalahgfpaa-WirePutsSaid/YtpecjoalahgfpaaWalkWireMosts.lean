/- A number above the greatest that may be is refused, and turns nothing: the walk. -/
import Derived.Test.YtpecjoalahgfpaaWalkWireCuts
namespace Go.Proofs.Ytpecjoalahgfpaa
open Go.RowKit Go.Kpt WirePure
set_option linter.unusedVariables false

theorem nxt_first {n most : Nat} {rest : List Nat} (hn : n < 18446744073709551616) (h : n ≤ most) : nxt 0 (enc n ++ rest) most 0 = (n, (enc n).length, 0) := by
  unfold nxt
  rw [if_pos rfl, List.drop_zero, dec_enc0 (by omega)]
  simp [res, h]

theorem nxt_over {n most : Nat} {rest : List Nat} (hn : n < 18446744073709551616) (h : ¬ n ≤ most) : nxt 0 (enc n ++ rest) most 0 = (0, 0, 1) := by
  unfold nxt
  rw [if_pos rfl, List.drop_zero, dec_enc0 (by omega)]
  simp [res, h]

theorem nxt_at {pre rest : List Nat} {n most : Nat} (hn : n < 18446744073709551616) (h : n ≤ most) : nxt 0 (pre ++ (enc n ++ rest)) most pre.length = (n, pre.length + (enc n).length, 0) := by
  unfold nxt
  rw [if_pos rfl, List.drop_left, dec_enc0 (by omega)]
  simp [res, h]

set_option maxRecDepth 100000 in
set_option maxHeartbeats 1000000 in
theorem wireMosts_any (n most : Nat) (hn : n < 18446744073709551616) (w : World) :
    Calls Try.prog 8 #[.int .u64 n, .int .u64 most] w fun e w' => e = .returned (.bool true) ∧ Below w.heap.size w w' := by
  have hpa := put_nil n hn
  have l1 := enc_len_pos n
  have l2 := enc_len_ten hn
  go_enter Try.func8, Try.ntmps8
  go_wp2_with fail
  refine (head_any _).mono ?_
  rintro e w1 ⟨rfl, hB1⟩
  go_wp2_with fail
  refine (hpa _).mono ?_
  rintro e w2 ⟨v1, rfl, ho1, hB2⟩
  obtain ⟨p1, c1, rfl, hc1, -, hsl⟩ := ho1.sl
  rw [ib_length] at hc1 ⊢
  have hp2 := put_any p1 c1 (enc n) 5 (by omega) _ w2 hsl (by omega)
  clear ho1 hsl hpa
  go_wp2_with fail
  refine hp2.mono ?_
  rintro e w3 ⟨v2, rfl, ho2, hB3⟩
  clear hp2
  rw [enc_small (n := 5) (by omega)] at ho2
  obtain ⟨p2, c2, rfl, hc2, -, hsl2⟩ := ho2.sl
  rw [ib_length] at hc2 ⊢
  clear ho2
  have hl5 : (enc n ++ [5]).length = (enc n).length + 1 := by simp
  have hb5 : ∀ c ∈ enc n ++ [5], c < 256 := by
    intro c hc
    rcases List.mem_append.1 hc with h | h
    · exact enc_byte hn c h
    · have : c = 5 := by simpa using h
      omega
  have hr := read_any p2 ((enc n).length + 1) c2 w3
  go_wp2_with fail
  refine hr.mono ?_
  rintro e w4 ⟨rfl, hrd, hB4, hs4⟩
  rw [← hl5] at hrd
  have hsl4 := hsl2.kept (Kept.of_below (F := fun _ => False) hB4) (fun x hx h => h)
  have h1 := hB1.size
  have h2 := hB2.size
  have h3 := hB3.size
  have h4 := hB4.size
  have hZ : Below w.heap.size w w4 := ((hB1.trans (hB2.mono h1)).trans (hB3.mono (by omega))).trans (hB4.mono (by omega))
  clear hr hsl2
  by_cases hle : n ≤ most
  · have g1 : (n : Int) ≤ (most : Int) := by omega
    have hm := num_any w3.heap.size p2 c2 0 most 0 (enc n ++ [5]) _ w4 hrd hsl4 (fun x hx => by omega) (by omega) (by omega) (by omega) hb5 _ _ _ (nxt_first (rest := [5]) hn hle)
    go_wp2_with fail
    refine hm.mono ?_
    rintro e w5 ⟨rfl, hrd5, hk5⟩
    have hsl5 := hsl4.kept hk5 (fun x hx h => by omega)
    have h5 := hk5.size
    have hm2 := num_any w3.heap.size p2 c2 (enc n).length 9 0 (enc n ++ [5]) _ w5 hrd5 hsl5 (fun x hx => by omega) (by omega) (by omega) (by omega) hb5 5 ((enc n).length + 1) 0 (by
      have := nxt_at (pre := enc n) (rest := []) (n := 5) (most := 9) (by omega) (by omega)
      rw [enc_small (n := 5) (by omega)] at this
      simpa using this)
    clear hm hsl4 hrd hrd5
    go_wp2_with fail
    refine hm2.mono ?_
    rintro e w6 ⟨rfl, hrd6, hk6⟩
    have h6 := hk6.size
    have hee := err_any _ _ _ _ _ _ w6 hrd6
    clear hm2 hsl5
    go_wp2_with fail
    refine hee.mono ?_
    rintro e w7 ⟨rfl, rfl⟩
    go_wp2_with fail
    go_ret
    exact ⟨rfl, (hZ.trans (hk5.below (by omega) (fun x hx h => by omega))).trans (hk6.below (by omega) (fun x hx h => by omega))⟩
  · have g1 : ¬ (n : Int) ≤ (most : Int) := by omega
    have hm := num_any w3.heap.size p2 c2 0 most 0 (enc n ++ [5]) _ w4 hrd hsl4 (fun x hx => by omega) (by omega) (by omega) (by omega) hb5 _ _ _ (nxt_over (rest := [5]) hn hle)
    go_wp2_with fail
    refine hm.mono ?_
    rintro e w5 ⟨rfl, hrd5, hk5⟩
    have hsl5 := hsl4.kept hk5 (fun x hx h => by omega)
    have h5 := hk5.size
    have hee := err_any _ _ _ _ _ _ w5 hrd5
    have haa := at_any _ _ _ _ _ _ w5 hrd5
    have hm2 := num_any w3.heap.size p2 c2 0 9 1 (enc n ++ [5]) _ w5 hrd5 hsl5 (fun x hx => by omega) (by omega) (by omega) (by omega) hb5 0 0 1 (by simp [nxt])
    clear hm hsl4 hrd
    go_wp2_with fail
    refine hee.mono ?_
    rintro e w6 ⟨rfl, rfl⟩
    go_wp2_with fail
    refine haa.mono ?_
    rintro e w6 ⟨rfl, rfl⟩
    go_wp2_with fail
    refine hm2.mono ?_
    rintro e w6 ⟨rfl, hrd6, hk6⟩
    have hsl6 := hsl5.kept hk6 (fun x hx h => by omega)
    have h6 := hk6.size
    have hee6 := err_any _ _ _ _ _ _ w6 hrd6
    have hfl := flag_any w3.heap.size p2 c2 0 1 (enc n ++ [5]) _ w6 hrd6 hsl6 (fun x hx => by omega) (by omega) (by omega) (by omega) hb5 0 0 1 (by simp [nxt])
    rw [show decide ((0 : Nat) = 1) = false by decide] at hfl
    clear hee haa hm2
    go_wp2_with fail
    refine hee6.mono ?_
    rintro e w7 ⟨rfl, rfl⟩
    go_wp2_with fail
    refine hfl.mono ?_
    rintro e w7 ⟨rfl, hrd7, hk7⟩
    go_wp2_with fail
    go_ret
    exact ⟨rfl, ((hZ.trans (hk5.below (by omega) (fun x hx h => by omega))).trans (hk6.below (by omega) (fun x hx h => by omega))).trans (hk7.below (by omega) (fun x hx h => by omega))⟩

theorem wireMosts_walk (a0 a1 : Int) (w : World) (w0 : (Lit.int .u64 a0).wf = true) (w1 : (Lit.int .u64 a1).wf = true) :
    Calls Try.prog 8 #[.int .u64 a0, .int .u64 a1] w fun e w' => e = .returned (.bool true) ∧ Below w.heap.size w w' := by
  obtain ⟨a, rfl, ha⟩ := u64_nat w0
  obtain ⟨b, rfl, hb⟩ := u64_nat w1
  exact wireMosts_any a b ha w
end Go.Proofs.Ytpecjoalahgfpaa
