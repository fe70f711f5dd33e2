/- What the functions on numbers as bytes do. -/
import Derived.Test.YtbdkbhicjbaffaaRows
import Derived.Test.YtbdkbhicjbaffaaKept
import Derived.Test.YtbdkbhicjbaffaaOwn
import Derived.Test.YtbdkbhicjbaffaaArgs
import Derived.Test.YtbdkbhicjbaffaaSpread
import Derived.Test.YtbdkbhicjbaffaaWirePure
import Derived.Laws.BitsAllLaws
import Derived.Laws.BytesArg
import Derived.BigRegion
import Derived.BigQuiet
import Derived.Handy
namespace Go.Proofs.Ytbdkbhicjbaffaa
open Go.RowKit Go.Kpt WirePure
set_option linter.unusedVariables false

theorem Try.info5 : (Try.prog.info? 5).map (fun i => (i.zero, i.size, i.bytes)) = some (some (.int .u8 0), 1, 1) := by kernel_rfl

/-- Bytes as the model's numbers. -/
def ib (xs : List Nat) : List Int := xs.map Int.ofNat
theorem ib_length (xs : List Nat) : (ib xs).length = xs.length := by simp [ib]
theorem ib_append (xs ys : List Nat) : ib (xs ++ ys) = ib xs ++ ib ys := by simp [ib]

theorem or128 : ∀ x, x < 256 → x ||| 128 = x % 128 + 128 := by decide +kernel

theorem byte_hi {m : Nat} : bits .or .u8 ((m : Int) % 256) 128 = ((m % 128 + 128 : Nat) : Int) := by
  have := u8_or_nat (m % 256) 128 (by omega) (by omega)
  rw [or128 _ (by omega)] at this
  rw [show m % 128 = m % 256 % 128 by omega]
  exact this

set_option maxRecDepth 100000 in
set_option maxHeartbeats 1000000 in
theorem put_any (a : Option Addr) (cap : Nat) (zs : List Nat) (n : Nat) (hn : n < 18446744073709551616) (p : Nat → Prop) (w : World) (hsl : Sl .u8 w p a (ib zs)) (hz : zs.length ≤ 10000) :
    Calls Try.prog 17 #[.slice a zs.length cap, .int .u64 n] w fun e w' => ∃ v, e = .returned v ∧ OwnI w' w.heap.size 5 .u8 v (ib (zs ++ enc n)) ∧ Below w.heap.size w w' := by
  obtain ⟨i0, hi, hz0, hz1, hz2⟩ := info_parts Try.info5
  have hnil := OwnI.nil w w.heap.size 5 .u8
  have hten := enc_len_ten hn
  go_enter Try.func17, Try.ntmps17
  go_wp2_with (at_builtin; refine wpList_append_ints rfl _ _ _ rfl w.heap.size 5 .u8 i0 (.int .u8 0) 1 Try.underlying25 hi hz0 hz1 hz2 rfl _ _ rfl hnil a cap (ib zs) p (by rw [ib_length]; rfl) hsl (by rw [ib_length]; unfold maxLen; simp; omega) (by rw [ib_length]; simp; omega) (Nat.le_refl _) ?_; intro v w1 hown hgrow hloc)
  have hB1 : Below w.heap.size w w1 := (Kept.of_grown hgrow).below (Nat.le_refl _) (fun x _ h => by cases h)
  have hown1 : OwnI w1 w.heap.size 5 .u8 v (ib zs) := hown
  clear hgrow hloc hown hsl hnil
  go_loopw [5, 1] (fun x y wr => ∃ (xs : List Nat) (m : Nat), y = .int .u64 m ∧ m < 18446744073709551616 ∧ OwnI wr w.heap.size 5 .u8 x (ib xs) ∧ xs ++ enc m = zs ++ enc n ∧ Below w.heap.size w wr) (fun _ y _ => (intOf y).toNat)
  case atStart => exact ⟨zs, n, rfl, hn, hown1, rfl, hB1⟩
  case round =>
    clear hown1 hB1
    obtain ⟨xs, m, rfl, hm, hown, heq, hB⟩ := hrel
    have hlen : xs.length + (enc m).length = zs.length + (enc n).length := by simpa using congrArg List.length heq
    have hb := byte_hi (m := m)
    have hbase := hB.size
    by_cases h128 : 128 ≤ m
    · have c1 : (128 : Int) ≤ (m : Int) := by omega
      have hd : (m : Int) / 128 = ((m / 128 : Nat) : Int) := by rw [Int.natCast_ediv]; rfl
      have hdm : m / 128 < m := by omega
      rw [enc_big (n := m) (by omega)] at heq
      rw [← List.singleton_append, ← List.append_assoc] at heq
      have hpos := enc_len_pos (m / 128)
      have hlen : (xs.length + 1) + (enc (m / 128)).length = zs.length + (enc n).length := by have := congrArg List.length heq; simp at this; omega
      generalize m % 128 + 128 = c at *
      generalize m / 128 = q at *
      go_wp2_with (at_builtin; refine wpList_append_ints rfl _ _ _ rfl w.heap.size 5 .u8 i0 (.int .u8 0) 1 Try.underlying25 hi hz0 hz1 hz2 rfl _ _ rfl (hown.alloc _) (some ⟨wr.heap.size, 0, none⟩) 1 [(c : Int)] _ rfl (Sl.one _ _ _ _) (by rw [ib_length]; unfold maxLen; simp; omega) (by rw [ib_length]; simp; omega) (by simp; omega) ?_; intro v2 w2 hown2 hgrow hloc)
      have hB2 : Below w.heap.size w w2 := (hB.alloc hbase _).trans ((Kept.of_grown hgrow).below (by simp; omega) (fun x hx h => by have := hown.lt x h.symm; omega))
      have hown3 : OwnI w2 w.heap.size 5 .u8 v2 (ib (xs ++ [c])) := by rw [ib_append]; exact hown2
      clear hgrow hloc hown2 hown
      go_wp2_with fail
      go_roundw
      case rel => exact ⟨xs ++ [c], q, rfl, by omega, hown3, heq, hB2⟩
      case measure => simp [intOf]; omega
    · have c1 : ¬ (128 : Int) ≤ (m : Int) := by omega
      have hd : (m : Int) % 256 = (m : Int) := by omega
      rw [enc_small (n := m) (by omega)] at heq hlen
      go_wp2_with (at_builtin; refine wpList_append_ints rfl _ _ _ rfl w.heap.size 5 .u8 i0 (.int .u8 0) 1 Try.underlying25 hi hz0 hz1 hz2 rfl _ _ rfl (hown.alloc _) (some ⟨wr.heap.size, 0, none⟩) 1 [(m : Int)] _ rfl (Sl.one _ _ _ _) (by rw [ib_length]; unfold maxLen; simp; omega) (by rw [ib_length]; simp; omega) (by simp; omega) ?_; intro v2 w2 hown2 hgrow hloc)
      have hB2 : Below w.heap.size w w2 := (hB.alloc hbase _).trans ((Kept.of_grown hgrow).below (by simp; omega) (fun x hx h => by have := hown.lt x h.symm; omega))
      have hown3 : OwnI w2 w.heap.size 5 .u8 v2 (ib (zs ++ enc n)) := by rw [← heq, ib_append]; exact hown2
      clear hgrow hloc hown2 hown
      go_wp2_with fail
      go_ret
      exact ⟨_, rfl, hown3, hB2⟩

/-- A reader in its block. -/
def Rd (w : World) (r : Nat) (a : Option Addr) (len cap at_ e : Nat) : Prop := w.heap[r]? = some (.cells #[.slice a len cap, .int .i64 at_, .int .i64 e] 59 (0, 0))

theorem Rd.kept {F : Nat → Prop} {w w' : World} {r : Nat} {a : Option Addr} {len cap at_ e : Nat} (h : Rd w r a len cap at_ e) (k : Kept F w w') (hF : ¬ F r) : Rd w' r a len cap at_ e := (k.block r (lt_of h) hF).trans h

theorem read_any (a : Option Addr) (len cap : Nat) (w : World) : Calls Try.prog 19 #[.slice a len cap] w fun e w' => e = .returned (.pointer (some ⟨w.heap.size, 0, none⟩)) ∧ Rd w' w.heap.size a len cap 0 0 ∧ Below w.heap.size w w' ∧ w'.heap.size = w.heap.size + 1 := by
  go_enter Try.func19, Try.ntmps19
  go_wp2_with fail
  go_ret
  exact ⟨rfl, heap_alloc_new _ _, by go_grown, by simp⟩

theorem err_any (r : Nat) (a : Option Addr) (len cap at_ e : Nat) (w : World) (h : Rd w r a len cap at_ e) : Calls Try.prog 24 #[.pointer (some ⟨r, 0, none⟩)] w fun x w' => x = .returned (.int .i64 e) ∧ w = w' := by
  have c2 : w.cell? ⟨r, 2, none⟩ = some (.int .i64 e) := cell_of h
  go_enter Try.func24, Try.ntmps24
  go_wp2_with fail
  go_ret
  exact ⟨rfl, rfl⟩

theorem at_any (r : Nat) (a : Option Addr) (len cap at_ e : Nat) (w : World) (h : Rd w r a len cap at_ e) : Calls Try.prog 21 #[.pointer (some ⟨r, 0, none⟩)] w fun x w' => x = .returned (.int .i64 at_) ∧ w = w' := by
  have c2 : w.cell? ⟨r, 1, none⟩ = some (.int .i64 at_) := cell_of h
  go_enter Try.func21, Try.ntmps21
  go_wp2_with fail
  go_ret
  exact ⟨rfl, rfl⟩

theorem fail_any (r : Nat) (a : Option Addr) (len cap at_ e f : Nat) (w : World) (h : Rd w r a len cap at_ e) : Calls Try.prog 25 #[.pointer (some ⟨r, 0, none⟩), .int .i64 f] w fun x w' => x = .returned (.int .u64 0) ∧ Rd w' r a len cap at_ f ∧ Kept (fun x => x = r) w w' := by
  have f2 : w.frozen? ⟨r, 2, none⟩ = false := frozen_of h
  have c2 : w.cell? ⟨r, 2, none⟩ = some (.int .i64 e) := cell_of h
  go_enter Try.func25, Try.ntmps25
  go_wp2_with fail
  go_ret
  exact ⟨rfl, set_same _ h, Kept.set1 _ _ _ _⟩

/-- What the reader's next number is, where it then stands, and its error. -/
def res (D : Option (Nat × Nat)) (most at_ : Nat) : Nat × Nat × Nat := match D with
  | none => (0, at_, 5)
  | some (n, k) => if n ≤ most then (n, at_ + k, 0) else (0, at_, 1)

theorem Sl.drop {k : IntKind} {w : World} {p : Nat → Prop} {a : Option Addr} {zs : List Int} (h : Sl k w p a zs) (n : Nat) : Sl k w p (Option.map (fun x => x.add n) a) (zs.drop n) := by
  intro i hi
  have hi' : n + i < zs.length := by simp at hi; omega
  obtain ⟨b, off, ha, hb, hc⟩ := h (n + i) hi'
  refine ⟨b, off + n, by rw [ha]; simp [add_form], hb, ?_⟩
  rw [Nat.add_assoc, hc]
  simp [List.getD_eq_getElem?_getD, List.getElem?_drop]

theorem ib_drop (zs : List Nat) (n : Nat) : ib (zs.drop n) = (ib zs).drop n := by simp [ib, List.map_drop]
theorem ib_getD (zs : List Nat) (i : Nat) : (ib zs).getD i 0 = ((zs.getD i 0 : Nat) : Int) := by
  simp only [ib, List.getD_eq_getElem?_getD, List.getElem?_map]
  cases zs[i]? <;> rfl

theorem dec_cons (i c : Nat) (l : List Nat) : dec i (c :: l) = if (i = 9 ∧ 1 < c) ∨ (0 < i ∧ c = 0) then none
    else if 128 ≤ c then (dec (i + 1) l).map fun x => (c - 128 + 128 * x.1, x.2 + 1) else some (c, 1) := rfl

theorem and127 {c : Nat} (h : c < 256) : bits .and .u8 (c : Int) 127 = ((c % 128 : Nat) : Int) := by
  have := u8_and_nat c 127 h (by omega)
  rw [nat_mask7] at this
  exact this

theorem or_shl {n m k : Nat} (hn : n < 2 ^ (7 * k)) (hk : n + m * 2 ^ (7 * k) < 18446744073709551616) : bits .or .u64 (n : Int) ((m * 2 ^ (7 * k) : Nat) : Int) = ((n + m * 2 ^ (7 * k) : Nat) : Int) := by
  rw [u64_or_nat n (m * 2 ^ (7 * k)) (by omega) (by omega), Nat.or_comm, nat_join (7 * k) (m * 2 ^ (7 * k)) n (Nat.mul_mod_left _ _) hn, Nat.add_comm]

theorem shl_small {m k : Nat} (hk : m * 2 ^ (7 * k) < 18446744073709551616) : IntKind.u64.wrap ((m : Int) * 2 ^ (7 * k)) = ((m * 2 ^ (7 * k) : Nat) : Int) := by
  have h : (m : Int) * 2 ^ (7 * k) = ((m * 2 ^ (7 * k) : Nat) : Int) := by push_cast; rfl
  rw [h]
  exact IntWalk.u64_in _ ⟨by omega, by omega⟩

set_option maxRecDepth 100000 in
set_option maxHeartbeats 1000000 in
theorem num_some (r : Nat) (a : Option Addr) (cap at_ most : Nat) (zs : List Nat) (p : Nat → Prop) (w : World) (h : Rd w r a zs.length cap at_ 0) (hsl : Sl .u8 w p a (ib zs)) (hp : ∀ x, p x → x ≠ r) (hat : at_ ≤ zs.length) (hcap : zs.length ≤ cap) (hz : zs.length ≤ 100000) (hcb : ∀ c ∈ zs, c < 256)
    (rn ra re : Nat) (hR : res (dec 0 (zs.drop at_)) most at_ = (rn, ra, re)) (hce : ¬ cap = at_) :
    Calls Try.prog 23 #[.pointer (some ⟨r, 0, none⟩), .int .u64 most] w fun x w' => x = .returned (.int .u64 rn) ∧ Rd w' r a zs.length cap ra re ∧ Kept (fun x => x = r) w w' := by
  have c0 : w.cell? ⟨r, 0, none⟩ = some (.slice a zs.length cap) := cell_of h
  have c1 : w.cell? ⟨r, 1, none⟩ = some (.int .i64 at_) := cell_of h
  have c2 : w.cell? ⟨r, 2, none⟩ = some (.int .i64 (0 : Nat)) := cell_of h
  have i1 : (at_ : Int) ≤ (zs.length : Int) := by omega
  have i2 : (zs.length : Int) ≤ (cap : Int) := by omega
  have HR := Lib.hid hR
  clear hR
  go_enter Try.func23, Try.ntmps23
  go_wp2_with fail
  go_quiet (fail)
  have h2 : Rd (w.drewN nq) r a zs.length cap at_ 0 := h
  have hsl2 : Sl .u8 (w.drewN nq) p (Option.map (fun x => x.add at_) a) (ib (zs.drop at_)) := by rw [ib_drop]; exact Sl.drop hsl at_
  have hK : Kept (fun x => x = r) w (w.drewN nq) := (Kept.refl _ _).drewN nq
  clear c0 c1 c2 h
  generalize w.drewN nq = W at *
  generalize Option.map (fun x => x.add at_) a = a2 at *
  obtain ⟨len2, hl2⟩ : ∃ n, zs.length - at_ = n := ⟨_, rfl⟩
  have hrl : (zs.drop at_).length = len2 := by simp [hl2]
  have hrb : ∀ c ∈ zs.drop at_, c < 256 := fun c hc => hcb c (List.mem_of_mem_drop hc)
  have i3 : len2 ≤ 100000 := by omega
  have HA := Lib.hid (show at_ + len2 = zs.length by omega)
  rw [hl2]
  generalize zs.drop at_ = rest at *
  clear hl2 hsl hcb
  go_wp2_with fail
  go_loop [23, 5] (fun x y => ∃ (k n : Nat), x = .int .i64 k ∧ y = .int .u64 n ∧ k ≤ len2 ∧ k ≤ 9 ∧ n < 2 ^ (7 * k) ∧ Hid (dec 0 rest = (dec k (rest.drop k)).map fun x => (n + 2 ^ (7 * k) * x.1, x.2 + k))) (fun x _ => len2 - (intOf x).toNat)
  case atStart => exact ⟨0, 0, rfl, rfl, by omega, by omega, by simp, Lib.hid (by cases h : dec 0 rest <;> simp [h])⟩
  case round =>
    obtain ⟨k, n, rfl, rfl, hk, hk9, hn, HD⟩ := hrel
    by_cases hlt : k < len2
    · obtain ⟨b, off, rfl, hb, hcell⟩ := hsl2 k (by rw [ib_length]; omega)
      have hbr := hp b hb
      obtain ⟨c, hc⟩ : ∃ c, rest.getD k 0 = c := ⟨_, rfl⟩
      rw [ib_getD, hc] at hcell
      have hget : rest[k]? = some c := by
        rw [List.getElem?_eq_getElem (by omega)]
        simp [List.getD_eq_getElem?_getD, List.getElem?_eq_getElem (show k < rest.length by omega)] at hc
        rw [hc]
      have hc256 : c < 256 := hrb c (List.mem_of_getElem? hget)
      have hdrop : rest.drop k = c :: rest.drop (k + 1) := by
        rw [List.drop_eq_getElem_cons (show k < rest.length by omega)]
        congr 1
        rw [List.getElem?_eq_getElem (by omega)] at hget
        exact Option.some.inj hget
      have hD := HD.out
      rw [hdrop, dec_cons] at hD
      clear HD hget hdrop hc
      have j1 : (k : Int) < (len2 : Int) := by omega
      by_cases hbad : (k = 9 ∧ 1 < c) ∨ (0 < k ∧ c = 0)
      · rw [if_pos hbad] at hD
        have hR := HR.out
        rw [hD] at hR
        clear hD HR
        obtain ⟨rfl, rfl, rfl⟩ : rn = 0 ∧ ra = at_ ∧ re = 5 := by simp [res] at hR; omega
        have hf := fail_any r a zs.length cap ra 0 5
        have hcases : ((((k : Int) == 9) = true ∧ (1 : Int) < (c : Int)) ∨ (((k : Int) == 9) = true ∧ ¬ (1 : Int) < (c : Int) ∧ (0 : Int) < (k : Int) ∧ 0 < k ∧ ((c : Int) == 0) = true) ∨ (((k : Int) == 9) = false ∧ (0 : Int) < (k : Int) ∧ 0 < k ∧ ((c : Int) == 0) = true)) := by
          by_cases h9 : k = 9
          · by_cases h1 : 1 < c
            · exact .inl ⟨by simp; omega, by omega⟩
            · exact .inr (.inl ⟨by simp; omega, by omega, by omega, by omega, by simp; omega⟩)
          · exact .inr (.inr ⟨by simp; omega, by omega, by omega, by simp; omega⟩)
        clear hR hbad
        rcases hcases with ⟨e1, e2⟩ | ⟨e1, e2, e3, e4, e5⟩ | ⟨e1, e3, e4, e5⟩
        all_goals
          go_wp2_with fail
          refine (hf _ h2).mono ?_
          rintro e w' ⟨rfl, hr', hk'⟩
          go_wp2_with fail
          go_ret
          exact ⟨rfl, hr', hK.trans hk' (fun _ _ h => h)⟩
      · rw [if_neg hbad] at hD
        have HD := Lib.hid hD
        clear hD
        have hcases : ((((k : Int) == 9) = true ∧ ¬ (1 : Int) < (c : Int) ∧ (0 : Int) < (k : Int) ∧ 0 < k ∧ ((c : Int) == 0) = false) ∨ (((k : Int) == 9) = false ∧ (0 : Int) < (k : Int) ∧ 0 < k ∧ ((c : Int) == 0) = false) ∨ (((k : Int) == 9) = false ∧ ¬ (0 : Int) < (k : Int) ∧ ¬ 0 < k)) := by
          by_cases h9 : k = 9
          · exact .inl ⟨by simp; omega, by omega, by omega, by omega, by simp; omega⟩
          · by_cases h0 : 0 < k
            · exact .inr (.inl ⟨by simp; omega, by omega, by omega, by simp; omega⟩)
            · exact .inr (.inr ⟨by simp; omega, by omega, by omega⟩)
        have hsmall : k = 9 → c ≤ 1 := fun h => by omega
        have a1 := and127 hc256
        have hm : c % 128 < 128 := Nat.mod_lt _ (by omega)
        have hmc : 128 ≤ c → c - 128 = c % 128 := fun h => by omega
        have hmc' : c < 128 → c % 128 = c := fun h => Nat.mod_eq_of_lt h
        have hm9 : k = 9 → c % 128 ≤ 1 := fun h => by have := hsmall h; omega
        obtain ⟨P, hP⟩ : ∃ P, 2 ^ (7 * k) = P := ⟨_, rfl⟩
        have hPb : P ≤ 2 ^ 63 ∧ (k ≠ 9 → P ≤ 2 ^ 56) := by
          rw [← hP]
          exact ⟨Nat.pow_le_pow_right (by omega) (by omega), fun h => Nat.pow_le_pow_right (by omega) (by omega)⟩
        have hP1 : 2 ^ (7 * (k + 1)) = P * 128 := by rw [show 7 * (k + 1) = 7 * k + 7 by omega, Nat.pow_add, hP]
        obtain ⟨m, hmm⟩ : ∃ m, c % 128 = m := ⟨_, rfl⟩
        rw [hmm] at a1 hm hmc hmc' hm9
        have hmP : m * P ≤ 127 * P := Nat.mul_le_mul_right _ (by omega)
        have hmP9 : k = 9 → m * P ≤ 1 * P := fun h => Nat.mul_le_mul_right _ (hm9 h)
        have hnP : n < P := by rw [← hP]; exact hn
        have hsum : n + m * P < 18446744073709551616 := by
          by_cases h9 : k = 9
          · have := hmP9 h9; omega
          · have := hPb.2 h9; omega
        have a2 : IntKind.u64.wrap (m : Int) = (m : Int) := IntWalk.u64_in _ ⟨by omega, by omega⟩
        have a3 := shl_small (m := m) (k := k) (by rw [hP]; omega)
        have a4 := or_shl (m := m) hn (by rw [hP]; exact hsum)
        have hnext : 128 ≤ c → k + 1 ≤ 9 ∧ n + m * P < 2 ^ (7 * (k + 1)) ∧ dec 0 rest = (dec (k + 1) (rest.drop (k + 1))).map fun x => (n + m * P + 2 ^ (7 * (k + 1)) * x.1, x.2 + (k + 1)) := by
          intro h128
          refine ⟨by have : k ≠ 9 := fun h => by have := hsmall h; omega
                     omega, by rw [hP1]; have : m * P ≤ P * 127 := by rw [Nat.mul_comm]; exact Nat.mul_le_mul_left _ (by omega)
                               omega, ?_⟩
          have hD := HD.out
          rw [if_pos h128, Option.map_map] at hD
          rw [hD]
          congr 1
          funext x
          simp only [Function.comp]
          rw [hP, hmc h128, hP1]
          refine Prod.ext ?_ ?_
          · show n + P * (m + 128 * x.1) = n + m * P + P * 128 * x.1
            rw [Nat.mul_add, Nat.mul_comm P m, Nat.mul_assoc, Nat.add_assoc]
          · show x.2 + 1 + k = x.2 + (k + 1)
            omega
        have hlast : c < 128 → res (some (n + m * P, k + 1)) most at_ = (rn, ra, re) := by
          intro h128
          have hD := HD.out
          rw [if_neg (by omega)] at hD
          have hR := HR.out
          rw [hD] at hR
          simp only [Option.map_some] at hR
          rw [hP, ← hmc' h128, Nat.mul_comm P, Nat.add_comm 1 k] at hR
          exact hR
        have a5 : (m : Int) * 2 ^ (7 * k) = ((m * 2 ^ (7 * k) : Nat) : Int) := by push_cast; rfl
        have a6 : IntKind.u64.wrap ((m * P : Nat) : Int) = ((m * P : Nat) : Int) := IntWalk.u64_in _ ⟨by omega, by omega⟩
        have HN := Lib.hid hnext
        have HL := Lib.hid hlast
        have hqi : ((n + m * P : Nat) : Int) = ((n + m * P : Nat) : Int) := rfl
        rw [hP] at a4 a3 a5
        clear hnext hlast HD hsmall hmc hmc' hm9 hPb hP1 hmP hmP9 hnP hbad hqi hsum
        by_cases h128 : 128 ≤ c
        · obtain ⟨q1, q2, q3⟩ := HN.out h128
          have HQ := Lib.hid q3
          clear q3 HN HL HR
          have e6 : (128 : Int) ≤ (c : Int) := by omega
          generalize n + m * P = n2 at *
          generalize m * P = sh at *
          rcases hcases with ⟨e1, e2, e3, e4, e5⟩ | ⟨e1, e3, e4, e5⟩ | ⟨e1, e3, e4⟩
          all_goals
            go_wp2_with fail
            go_round
            case rel => exact ⟨k + 1, n2, by go_num, rfl, by omega, q1, q2, HQ⟩
            case measure => simp [intOf]; omega
        · have hL := HL.out (by omega)
          have e6 : ¬ (128 : Int) ≤ (c : Int) := by omega
          clear HN HL HR
          generalize n + m * P = n2 at *
          generalize m * P = sh at *
          have d0 : W.cell? ⟨r, 1, none⟩ = some (.int .i64 at_) := cell_of h2
          have d1 : W.frozen? ⟨r, 1, none⟩ = false := frozen_of h2
          have hA := HA.out
          clear HA
          by_cases hmo : n2 ≤ most
          · have e7 : ¬ (most : Int) < (n2 : Int) := by omega
            obtain ⟨rfl, hra, rfl⟩ : rn = n2 ∧ at_ + (k + 1) = ra ∧ re = 0 := by simp [res, hmo] at hL; omega
            have hst : Rd (W.setCell ⟨r, 1, none⟩ (.int .i64 (ra : Int))) r a zs.length cap ra 0 := set_same _ h2
            have hst2 := hK.trans (Kept.set1 W r 1 (.int .i64 (ra : Int))) (fun _ _ h => h)
            have e8 : (at_ : Int) + ((k : Int) + 1) = (ra : Int) := by omega
            have e9 : IntKind.i64.wrap (ra : Int) = (ra : Int) := IntWalk.i64_in _ ⟨by omega, by omega⟩
            have hlim : ra ≤ 200000 := by omega
            clear hL
            have e10 : (at_ : Int) + (k : Int) + 1 = (ra : Int) := by omega
            rcases hcases with ⟨e1, e2, e3, e4, e5⟩ | ⟨e1, e3, e4, e5⟩ | ⟨e1, e3, e4⟩
            all_goals
              go_wp2_with fail
              go_ret
              exact ⟨rfl, hst, hst2⟩
          · have e7 : (most : Int) < (n2 : Int) := by omega
            obtain ⟨rfl, rfl, rfl⟩ : rn = 0 ∧ ra = at_ ∧ re = 1 := by simp [res, hmo] at hL; omega
            have hf := fail_any r a zs.length cap ra 0 1
            clear hL
            rcases hcases with ⟨e1, e2, e3, e4, e5⟩ | ⟨e1, e3, e4, e5⟩ | ⟨e1, e3, e4⟩
            all_goals
              go_wp2_with fail
              refine (hf _ h2).mono ?_
              rintro e w' ⟨rfl, hr', hk'⟩
              go_wp2_with fail
              go_ret
              exact ⟨rfl, hr', hK.trans hk' (fun _ _ h => h)⟩
    · obtain rfl : k = len2 := by omega
      have hD := HD.out
      rw [List.drop_eq_nil_of_le (by omega)] at hD
      have hR := HR.out
      rw [hD] at hR
      obtain ⟨rfl, rfl, rfl⟩ : rn = 0 ∧ ra = at_ ∧ re = 5 := by simp [res, dec] at hR; omega
      have hf := fail_any r a zs.length cap ra 0 5
      clear hD hR HD HR
      go_wp2_with fail
      refine (hf _ h2).mono ?_
      rintro e w' ⟨rfl, hr', hk'⟩
      go_wp2_with fail
      go_ret
      exact ⟨rfl, hr', hK.trans hk' (fun _ _ h => h)⟩
end Go.Proofs.Ytbdkbhicjbaffaa
