/- A number's bytes cut off are none: the walk. -/
import Derived.Test.YtpecjoalahgfpaaWalkWireSizes
namespace Go.Proofs.Ytpecjoalahgfpaa
open Go.RowKit Go.Kpt WirePure
set_option linter.unusedVariables false

theorem enc_byte {n : Nat} (hn : n < 18446744073709551616) : ∀ c ∈ enc n, c < 256 := enc_bytes 10 n (by omega)

theorem nxt_cut {n k : Nat} (hn : n < 18446744073709551616) (hk : k < (enc n).length) (most : Nat) : nxt 0 ((enc n).take k) most 0 = (0, 0, 5) := by
  unfold nxt
  rw [if_pos rfl, List.drop_zero, dec_cut 10 0 n k (by omega) hk]
  rfl

theorem Sl.take {k : IntKind} {w : World} {p : Nat → Prop} {a : Option Addr} {zs : List Int} (h : Sl k w p a zs) (n : Nat) : Sl k w p a (zs.take n) := by
  intro i hi
  have hi' : i < n ∧ i < zs.length := by simp at hi; omega
  obtain ⟨b, off, ha, hb, hc⟩ := h i hi'.2
  exact ⟨b, off, ha, hb, by rw [hc]; simp [List.getD_eq_getElem?_getD, hi'.1]⟩

theorem ib_take (zs : List Nat) (n : Nat) : ib (zs.take n) = (ib zs).take n := by simp [ib, List.map_take]

set_option maxRecDepth 100000 in
set_option maxHeartbeats 1000000 in
theorem wireCuts_any (n : Nat) (cut : Int) (hn : n < 18446744073709551616) (h0 : -9223372036854775808 ≤ cut) (h1 : cut ≤ 9223372036854775807) (w : World) :
    Calls Try.prog 7 #[.int .u64 n, .int .i64 cut] w fun e w' => e = .returned (.bool true) ∧ Below w.heap.size w w' := by
  have hpa := put_nil n hn
  have l1 := enc_len_pos n
  have l2 := enc_len_ten hn
  go_enter Try.func7, Try.ntmps7
  go_wp2_with fail
  refine (head_any _).mono ?_
  rintro e w1 ⟨rfl, hB1⟩
  go_wp2_with fail
  refine (hpa _).mono ?_
  rintro e w2 ⟨v1, rfl, ho1, hB2⟩
  obtain ⟨p1, c1, rfl, hc1, -, hsl⟩ := ho1.sl
  rw [ib_length] at hc1 ⊢
  obtain ⟨L, hL⟩ : ∃ L, (enc n).length = L := ⟨_, rfl⟩
  rw [hL] at hc1 l1 l2 ⊢
  have f1 : ((L : Int) == 0) = false := by simp; omega
  obtain ⟨k, hk, hkL⟩ : ∃ k : Nat, wrap64 ((IntKind.u64.wrap cut).tmod (L : Int)) = (k : Int) ∧ k < L := by
    have u0 : 0 ≤ IntKind.u64.wrap cut := by rw [IntKind.wrap_u64]; omega
    have u1 : (IntKind.u64.wrap cut).tmod (L : Int) = (IntKind.u64.wrap cut) % (L : Int) := Int.tmod_eq_emod_of_nonneg u0
    have u2 : 0 ≤ (IntKind.u64.wrap cut) % (L : Int) := Int.emod_nonneg _ (by omega)
    have u3 : (IntKind.u64.wrap cut) % (L : Int) < (L : Int) := Int.emod_lt_of_pos _ (by omega)
    refine ⟨((IntKind.u64.wrap cut) % (L : Int)).toNat, ?_, by omega⟩
    rw [u1, IntWalk.wrap64_in _ ⟨by omega, by omega⟩]
    omega
  have f2 : (k : Int) ≤ (c1 : Int) := by omega
  have f3 : ¬ c1 = 0 := by omega
  have hlen : ((enc n).take k).length = k := by simp; omega
  have hsl1 : Sl .u8 w2 (fun x => w1.heap.size ≤ x ∧ x < w2.heap.size) p1 (ib ((enc n).take k)) := by rw [ib_take]; exact Sl.take hsl k
  have hr := read_any p1 k c1 w2
  clear hsl ho1 hpa
  go_wp2_with fail
  refine hr.mono ?_
  rintro e w3 ⟨rfl, hrd, hB3, hs3⟩
  have hsl3 := hsl1.kept (Kept.of_below (F := fun _ => False) hB3) (fun x hx h => h)
  have hrd' : Rd w3 w2.heap.size p1 ((enc n).take k).length c1 0 0 := by rw [hlen]; exact hrd
  have hn := num_any w2.heap.size p1 c1 0 18446744073709551615 0 ((enc n).take k) _ w3 hrd' hsl3 (fun x hx => by omega) (by omega) (by omega) (by omega) (fun c hc => enc_byte hn c (List.mem_of_mem_take hc)) 0 0 5 (nxt_cut hn (by omega) _)
  clear hr hsl1 hsl3 hrd hrd'
  go_wp2_with fail
  refine hn.mono ?_
  rintro e w4 ⟨rfl, hrd4, hk4⟩
  have hee := err_any _ _ _ _ _ _ w4 hrd4
  have ha := at_any _ _ _ _ _ _ w4 hrd4
  have hm4 := more_any _ _ _ _ _ _ w4 hrd4
  rw [show decide ((5 : Nat) = 0 ∧ 0 < ((enc n).take k).length) = false by simp] at hm4
  clear hn
  go_wp2_with fail
  refine hee.mono ?_
  rintro e w5 ⟨rfl, rfl⟩
  go_wp2_with fail
  refine ha.mono ?_
  rintro e w5 ⟨rfl, rfl⟩
  go_wp2_with fail
  refine hm4.mono ?_
  rintro e w5 ⟨rfl, hB5⟩
  go_wp2_with fail
  go_ret
  have h1 := hB1.size
  have h2 := hB2.size
  have h3 := hB3.size
  have h4 := hk4.size
  exact ⟨rfl, (((hB1.trans (hB2.mono h1)).trans (hB3.mono (by omega))).trans (hk4.below (by omega) (fun x hx h => by omega))).trans (hB5.mono (by omega))⟩

theorem wireCuts_walk (a0 a1 : Int) (w : World) (w0 : (Lit.int .u64 a0).wf = true) (w1 : (Lit.int .i64 a1).wf = true) :
    Calls Try.prog 7 #[.int .u64 a0, .int .i64 a1] w fun e w' => e = .returned (.bool true) ∧ Below w.heap.size w w' := by
  obtain ⟨a, rfl, ha⟩ := u64_nat w0
  obtain ⟨h0, h1⟩ := bounds_i64 w1
  exact wireCuts_any a a1 ha (by omega) (by omega) w
end Go.Proofs.Ytpecjoalahgfpaa
