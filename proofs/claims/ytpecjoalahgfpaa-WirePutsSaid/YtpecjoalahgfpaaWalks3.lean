/- The document's example; the number at the beginning of bytes, by the page. -/
import Derived.Test.YtpecjoalahgfpaaWalks2
namespace Go.Proofs.Ytpecjoalahgfpaa
open Go.RowKit Go.Kpt WirePure
set_option linter.unusedVariables false

theorem Rd.below {w w' : World} {r : Nat} {a : Option Addr} {len cap at_ e : Nat} (h : Rd w r a len cap at_ e) (hB : Below w.heap.size w w') : Rd w' r a len cap at_ e := (hB.block r (lt_of h)).trans h

theorem nxt_head : nxt 0 [172, 2] 1000 0 = (300, 2, 0) := by decide

set_option maxRecDepth 100000 in
set_option maxHeartbeats 1000000 in
theorem head_any (w : World) : Calls Try.prog 10 #[] w fun e w' => e = .returned (.bool true) ∧ Below w.heap.size w w' := by
  have he : enc 300 = [172, 2] := by rw [enc_big (by omega), enc_small (by omega)]
  have hp := put_any (some ⟨w.heap.size, 0, none⟩) 1 [9] 300 (by omega) (fun _ => True) (w.alloc (.cells #[.int .u8 9] 5)) (Sl.one w .u8 9 5) (by simp)
  rw [he] at hp
  clear he
  go_enter Try.func10, Try.ntmps10
  go_wp2_with fail
  refine hp.mono ?_
  clear hp
  rintro e w2 ⟨v, rfl, ho, hB⟩
  have hB1 : Below w.heap.size w w2 := Below.trans (b := w.alloc (.cells #[.int .u8 9] 5)) (by go_grown) (hB.mono (by simp))
  obtain ⟨g, cap, rfl, hb, hg, hl, hm, hc⟩ : ∃ g cap, v = .slice (some ⟨g, 0, none⟩) 3 cap ∧ (w.alloc (.cells #[.int .u8 9] 5)).heap.size ≤ g ∧ g < w2.heap.size ∧ 3 ≤ cap ∧ cap ≤ maxLen ∧ ∀ j, j < 3 → w2.cell? ⟨g, j, none⟩ = some (.int .u8 ((ib [9, 172, 2]).getD j 0)) := by
    rcases ho.shape with ⟨_, h⟩ | ⟨g, cap, h1, h2, h3, h4, h5, h6⟩
    · simp [ib] at h
    · exact ⟨g, cap, h1, h2, h3, h4, h5, h6⟩
  have c0 : w2.cell? ⟨g, 0, none⟩ = some (.int .u8 9) := hc 0 (by omega)
  have c1 : w2.cell? ⟨g, 1, none⟩ = some (.int .u8 172) := hc 1 (by omega)
  have c2 : w2.cell? ⟨g, 2, none⟩ = some (.int .u8 2) := hc 2 (by omega)
  have hsl : Sl .u8 w2 (fun x => x = g) (some ⟨g, 1, none⟩) (ib [172, 2]) := by
    intro i hi
    refine ⟨g, 1, rfl, rfl, ?_⟩
    have : i = 0 ∨ i = 1 := by simp [ib] at hi; omega
    rcases this with rfl | rfl
    · exact c1
    · exact c2
  have hcap : ¬ cap = 1 := by omega
  have hi1 : (3 : Int) ≤ (cap : Int) := by omega
  have hr := read_any (some ⟨g, 1, none⟩) 2 (cap - 1) w2
  clear hc ho
  go_wp2_with fail
  refine hr.mono ?_
  rintro e w3 ⟨rfl, hrd, hB3, hs3⟩
  have hsl3 := hsl.kept (Kept.of_below (F := fun _ => False) hB3) (fun x hx h => h)
  have hn := num_any w2.heap.size (some ⟨g, 1, none⟩) (cap - 1) 0 1000 0 [172, 2] (fun x => x = g) w3 hrd hsl3 (fun x hx => by omega) (by simp) (by simp; omega) (by simp) (by simp) 300 2 0 nxt_head
  clear hr hsl
  go_wp2_with fail
  refine hn.mono ?_
  rintro e w4 ⟨rfl, hrd4, hk4⟩
  have hm4 := more_any w2.heap.size (some ⟨g, 1, none⟩) 2 (cap - 1) 2 0 w4 hrd4
  rw [show decide (0 = 0 ∧ 2 < 2) = false by decide] at hm4
  clear hn hsl3
  go_wp2_with fail
  refine hm4.mono ?_
  rintro e w5 ⟨rfl, hB5⟩
  have hrd5 : Rd w5 w2.heap.size (some ⟨g, 1, none⟩) 2 (cap - 1) 2 0 := hrd4.below hB5
  have ha := at_any _ _ _ _ _ _ w5 hrd5
  have hee := err_any _ _ _ _ _ _ w5 hrd5
  clear hm4
  go_wp2_with fail
  refine ha.mono ?_
  rintro e w6 ⟨rfl, rfl⟩
  go_wp2_with fail
  refine hee.mono ?_
  rintro e w6 ⟨rfl, rfl⟩
  go_wp2_with fail
  go_ret
  have h1 := hB1.size
  have h3 := hB3.size
  have h4 := hk4.size
  exact ⟨rfl, ((hB1.trans (hB3.mono h1)).trans (hk4.below (by omega) (fun x hx h => by omega))).trans (hB5.mono (by omega))⟩

/-- The number of the first bytes. -/
def low (zs : List Nat) : Nat → Nat
  | 0 => 0
  | j + 1 => low zs j + (zs.getD j 0 % 128) * 128 ^ j

theorem low_lt (zs : List Nat) : ∀ j, low zs j < 128 ^ j
  | 0 => by simp [low]
  | j + 1 => by
    have := low_lt zs j
    have h : zs.getD j 0 % 128 < 128 := Nat.mod_lt _ (by omega)
    have h2 : (zs.getD j 0 % 128) * 128 ^ j ≤ 127 * 128 ^ j := Nat.mul_le_mul_right _ (by omega)
    rw [low, Nat.pow_succ]; omega

set_option maxRecDepth 100000 in
set_option maxHeartbeats 1000000 in
theorem one_any (a : Option Addr) (cap most : Nat) (zs : List Nat) (p : Nat → Prop) (w : World) (hsl : Sl .u8 w p a (ib zs)) (hz : zs.length ≤ 100000) (hcb : ∀ c ∈ zs, c < 256)
    (rn ra re : Nat) (hR : res (dec 0 zs) most 0 = (rn, ra, re)) (ra2 : Nat) (hra : ra2 = ra) :
    Calls Try.prog 18 #[.slice a zs.length cap, .int .u64 most] w fun x w' => x = .returned (.tuple #[.int .u64 rn, .int .i64 ra, .int .i64 re]) ∧ w = w' := by
  have HR := Lib.hid hR
  clear hR
  go_enter Try.func18, Try.ntmps18
  go_wp2_with fail
  go_loop [13] (fun x => ∃ (k : Nat), x = .int .i64 k ∧ k ≤ zs.length ∧ k ≤ 9 ∧ Hid (dec 0 zs = (dec k (zs.drop k)).map fun x => (low zs k + 128 ^ k * x.1, x.2 + k))) (fun x => zs.length - (intOf x).toNat)
  case atStart => exact ⟨0, rfl, by omega, by omega, Lib.hid (by cases h : dec 0 zs <;> simp [h, low])⟩
  case round =>
    obtain ⟨k, rfl, hk, hk9, HD⟩ := hrel
    by_cases hlt : k < zs.length
    · obtain ⟨b, off, rfl, hb, hcell⟩ := hsl k (by rw [ib_length]; omega)
      obtain ⟨c, hc⟩ : ∃ c, zs.getD k 0 = c := ⟨_, rfl⟩
      rw [ib_getD, hc] at hcell
      have hget : zs[k]? = some c := by
        rw [List.getElem?_eq_getElem (by omega)]
        simp [List.getD_eq_getElem?_getD, List.getElem?_eq_getElem hlt] at hc
        rw [hc]
      have hc256 : c < 256 := hcb c (List.mem_of_getElem? hget)
      have hdrop : zs.drop k = c :: zs.drop (k + 1) := by
        rw [List.drop_eq_getElem_cons hlt]
        congr 1
        rw [List.getElem?_eq_getElem (by omega)] at hget
        exact Option.some.inj hget
      have hlow : low zs (k + 1) = low zs k + (c % 128) * 128 ^ k := by rw [low, hc]
      have hlt1 := low_lt zs k
      have hD := HD.out
      rw [hdrop, dec_cons] at hD
      clear HD hget hdrop hc
      have j1 : (k : Int) < (zs.length : Int) := by omega
      by_cases hbad : (k = 9 ∧ 1 < c) ∨ (0 < k ∧ c = 0)
      · rw [if_pos hbad] at hD
        have hR := HR.out
        rw [hD] at hR
        clear hD HR
        obtain ⟨rfl, rfl, rfl⟩ : rn = 0 ∧ ra = 0 ∧ re = 5 := by simp [res] at hR; omega
        have hcases : (((0 : Int) < (k : Int) ∧ 0 < k ∧ ((c : Int) == 0) = true) ∨ ((0 : Int) < (k : Int) ∧ 0 < k ∧ ((c : Int) == 0) = false ∧ ((k : Int) == 9) = true ∧ (1 : Int) < (c : Int))) := by
          by_cases h0 : c = 0
          · exact .inl ⟨by omega, by omega, by simp; omega⟩
          · exact .inr ⟨by omega, by omega, by simp; omega, by simp; omega, by omega⟩
        clear hR hbad
        rcases hcases with ⟨e1, e2, e3⟩ | ⟨e1, e2, e3, e4, e5⟩
        all_goals
          go_wp2_with fail
          go_returns
          exact ⟨rfl, rfl⟩
      · rw [if_neg hbad] at hD
        have hcases : (((0 : Int) < (k : Int) ∧ 0 < k ∧ ((c : Int) == 0) = false ∧ ((k : Int) == 9) = true ∧ ¬ (1 : Int) < (c : Int)) ∨ ((0 : Int) < (k : Int) ∧ 0 < k ∧ ((c : Int) == 0) = false ∧ ((k : Int) == 9) = false) ∨ (¬ (0 : Int) < (k : Int) ∧ ¬ 0 < k ∧ ((k : Int) == 9) = false)) := by
          by_cases h9 : k = 9
          · exact .inl ⟨by omega, by omega, by simp; omega, by simp; omega, by omega⟩
          · by_cases h0 : 0 < k
            · exact .inr (.inl ⟨by omega, h0, by simp; omega, by simp; omega⟩)
            · exact .inr (.inr ⟨by omega, h0, by simp; omega⟩)
        have hs9 : k = 9 → c ≤ 1 := fun h => by omega
        have hP : 128 ^ k ≤ 2 ^ 63 ∧ (k ≠ 9 → 128 ^ k ≤ 2 ^ 56) := by
          constructor
          · calc 128 ^ k ≤ 128 ^ 9 := Nat.pow_le_pow_right (by omega) hk9
              _ = 2 ^ 63 := by decide
          · intro h
            calc 128 ^ k ≤ 128 ^ 8 := Nat.pow_le_pow_right (by omega) (by omega)
              _ = 2 ^ 56 := by decide
        by_cases h128 : 128 ≤ c
        · rw [if_pos h128, Option.map_map] at hD
          have hk8 : k + 1 ≤ 9 := by have : k ≠ 9 := fun h => by have := hs9 h; omega
                                     omega
          have hD2 : dec 0 zs = (dec (k + 1) (zs.drop (k + 1))).map fun x => (low zs (k + 1) + 128 ^ (k + 1) * x.1, x.2 + (k + 1)) := by
            rw [hD]
            congr 1
            funext x
            simp only [Function.comp]
            refine Prod.ext ?_ ?_
            · show low zs k + 128 ^ k * (c - 128 + 128 * x.1) = low zs (k + 1) + 128 ^ (k + 1) * x.1
              rw [hlow, Nat.pow_succ, show c % 128 = c - 128 by omega, Nat.mul_add, Nat.mul_comm (128 ^ k) (c - 128), Nat.mul_assoc, Nat.add_assoc]
            · show x.2 + 1 + k = x.2 + (k + 1)
              omega
          have HD2 := Lib.hid hD2
          clear hD hD2 hlow hlt1 hP hs9 hbad
          have e9 : (127 : Int) < (c : Int) := by omega
          rcases hcases with ⟨e1, e2, e3, e4, e5⟩ | ⟨e1, e2, e3, e4⟩ | ⟨e1, e2, e3⟩
          all_goals
            go_wp2_with fail
            go_round
            case rel => exact ⟨k + 1, by go_num, by omega, hk8, HD2⟩
            case measure => simp [intOf]; omega
        · rw [if_neg h128] at hD
          have hR := HR.out
          rw [hD] at hR
          have hN : low zs k + 128 ^ k * c = low zs (k + 1) := by rw [hlow, Nat.mod_eq_of_lt (by omega), Nat.mul_comm]
          simp only [Option.map_some] at hR
          rw [hN] at hR
          have hNb : low zs (k + 1) < 18446744073709551616 := by
            rw [← hN, Nat.mul_comm]
            have h1 : c * 128 ^ k ≤ 127 * 128 ^ k := Nat.mul_le_mul_right _ (by omega)
            by_cases h9 : k = 9
            · have h2 : c * 128 ^ k ≤ 1 * 128 ^ k := Nat.mul_le_mul_right _ (hs9 h9)
              omega
            · have := hP.2 h9
              omega
          obtain ⟨N, hNN⟩ : ∃ N, low zs (k + 1) = N := ⟨_, rfl⟩
          rw [hNN] at hR hNb
          clear hD hN hlow hlt1 hP hs9 hbad HR
          have HRR := Lib.hid hR
          clear hR
          have e9 : ¬ (127 : Int) < (c : Int) := by omega
          rcases hcases with ⟨e1, e2, e3, e4, e5⟩ | ⟨e1, e2, e3, e4⟩ | ⟨e1, e2, e3⟩
          all_goals
            go_wp2_with fail
            go_loop [9, 10] (fun x y => ∃ (j m : Nat) (z : Int), x = .int .u64 m ∧ y = .int .i64 z ∧ z = (j : Int) - 1 ∧ j ≤ k + 1 ∧ Hid (low zs j + 128 ^ j * m = N)) (fun _ y => (intOf y + 1).toNat)
            case atStart => exact ⟨k + 1, 0, (k : Int), rfl, rfl, by omega, by omega, Lib.hid (by rw [hNN]; simp)⟩
            case round =>
              obtain ⟨j, m, z, rfl, rfl, hz, hj, HI⟩ := hrel
              cases j with
              | zero =>
                obtain rfl : z = -1 := by omega
                clear hz
                have hm : N = m := by have := HI.out; simp [low] at this; omega
                subst hm
                have hR := HRR.out
                clear HI HRR
                by_cases hmo : N ≤ most
                · have e10 : ¬ (most : Int) < (N : Int) := by omega
                  obtain ⟨rfl, hra', rfl⟩ : rn = N ∧ ra = 1 + k ∧ re = 0 := by simp [res, hmo] at hR; omega
                  have e11 : (k : Int) + 1 = (ra : Int) := by omega
                  clear hR
                  go_wp2_with fail
                  go_returns
                  exact ⟨rfl, rfl⟩
                · have e10 : (most : Int) < (N : Int) := by omega
                  obtain ⟨rfl, rfl, rfl⟩ : rn = 0 ∧ ra = 0 ∧ re = 1 := by simp [res, hmo] at hR; omega
                  clear hR
                  go_wp2_with fail
                  go_returns
                  exact ⟨rfl, rfl⟩
              | succ j =>
                obtain rfl : z = (j : Int) := by omega
                clear hz
                have hI := HI.out
                clear HI
                obtain ⟨b', off', hb', _, hcj⟩ := hsl j (by rw [ib_length]; omega)
                cases hb'
                obtain ⟨d, hd⟩ : ∃ d, zs.getD j 0 = d := ⟨_, rfl⟩
                rw [ib_getD, hd] at hcj
                rw [low, hd] at hI
                have hdm : d % 128 < 128 := Nat.mod_lt _ (by omega)
                have hP1 : 1 ≤ 128 ^ j := Nat.pos_of_ne_zero (by simp)
                have hI2 : low zs j + 128 ^ j * (m * 128 + d % 128) = N := by
                  rw [← hI, Nat.mul_add, Nat.pow_succ, Nat.mul_comm (d % 128), Nat.mul_comm m 128, Nat.mul_assoc]
                  omega
                have hb2 : m * 128 + d % 128 < 18446744073709551616 := by
                  have : 1 * (m * 128 + d % 128) ≤ 128 ^ j * (m * 128 + d % 128) := Nat.mul_le_mul_right _ hP1
                  omega
                have s1 : IntKind.u64.wrap ((m : Int) * 128) = (m : Int) * 128 := IntWalk.u64_in _ ⟨by omega, by omega⟩
                have s2 : (d : Int) % 128 = ((d % 128 : Nat) : Int) := by omega
                have s3 : IntKind.u64.wrap ((d % 128 : Nat) : Int) = ((d % 128 : Nat) : Int) := IntWalk.u64_in _ ⟨by omega, by omega⟩
                have s4 : (m : Int) * 128 + ((d % 128 : Nat) : Int) = ((m * 128 + d % 128 : Nat) : Int) := by omega
                have s5 : IntKind.u64.wrap ((m * 128 + d % 128 : Nat) : Int) = ((m * 128 + d % 128 : Nat) : Int) := IntWalk.u64_in _ ⟨by omega, by omega⟩
                have jl1 : (j : Int) < (zs.length : Int) := by omega
                have HI2 := Lib.hid hI2
                have hjk : j ≤ k + 1 := by omega
                clear hI hI2 hP1
                generalize d % 128 = dm at *
                generalize m * 128 + dm = m2 at *
                go_wp2_with fail
                go_round
                case rel => exact ⟨j, m2, _, rfl, rfl, by omega, hjk, HI2⟩
                case measure => first | (simp [intOf]; done) | (simp [intOf]; omega)
    · obtain rfl : k = zs.length := by omega
      have hD := HD.out
      rw [List.drop_eq_nil_of_le (Nat.le_refl _)] at hD
      have hR := HR.out
      rw [hD] at hR
      obtain ⟨rfl, rfl, rfl⟩ : rn = 0 ∧ ra = 0 ∧ re = 5 := by simp [res, dec] at hR; omega
      clear hD hR HD HR
      go_wp2_with fail
      go_returns
      exact ⟨rfl, rfl⟩
end Go.Proofs.Ytpecjoalahgfpaa
