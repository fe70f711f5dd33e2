/- All taken out, the least one first, come in order: the walk. -/
import Derived.Test.YtbnpipfmeekbdaaHead
import Derived.Test.YtbnpipfmeekbdaaArgs
namespace Go.Proofs.Ytbnpipfmeekbdaa
open Go.RowKit Go.Kpt HeapPure
set_option linter.unusedVariables false

/-- The first i numbers are set, each under its place. -/
structure Upto (z : List Int) (i : Nat) (l : List (Int × Int)) : Prop where
  good : HeapPure.Good lt l
  len : l.length = i
  get : ∀ k, HeapPure.get l k = if 0 ≤ k ∧ k < (i : Int) then some (z.getD k.toNat 0) else none
theorem Upto.next {z : List Int} {i : Nat} {l : List (Int × Int)} (h : Upto z i l) : Upto z (i + 1) (setAt lt l i (z.getD i 0)) := by
  refine ⟨setAt_good ord_lt h.good _ _, ?_, fun k => ?_⟩
  · rw [setAt_length, ← get_isSome, h.get, if_neg (by omega : ¬ (0 ≤ (i : Int) ∧ (i : Int) < (i : Int)))]
    simp [h.len]
  · rw [setAt_get ord_lt h.good]
    by_cases e : k = (i : Int)
    · rw [if_pos e, if_pos (by omega), e]; rfl
    · rw [if_neg e, h.get]
      by_cases h2 : 0 ≤ k ∧ k < (i : Int)
      · rw [if_pos h2, if_pos (by omega)]
      · rw [if_neg h2, if_neg (by omega)]

/-- What is left: each is one of the numbers, none is less than the last one. -/
structure Left (z : List Int) (n j : Nat) (last : Int) (l : List (Int × Int)) : Prop where
  good : HeapPure.Good lt l
  len : l.length + j = n
  mem : ∀ k v, HeapPure.get l k = some v → ∃ kn : Nat, k = kn ∧ kn < n ∧ z.getD kn 0 = v
  ge : 0 < j → ∀ k v, HeapPure.get l k = some v → last ≤ v
theorem Left.start {z : List Int} {l : List (Int × Int)} (h : Upto z z.length l) : Left z z.length 0 0 l :=
  ⟨h.good, by rw [h.len]; rfl, (fun k v hg => by
    rw [h.get] at hg
    by_cases hh : 0 ≤ k ∧ k < (z.length : Int)
    · rw [if_pos hh] at hg
      exact ⟨k.toNat, by omega, by omega, Option.some.inj hg⟩
    · rw [if_neg hh] at hg
      cases hg), fun hh => by omega⟩
theorem Left.next {z : List Int} {n j : Nat} {last : Int} {l : List (Int × Int)} (h : Left z n j last l) (hl : 0 < l.length) : Left z n (j + 1) (vv l 0) (drop lt l (kk l 0)) := by
  obtain ⟨h1, h2⟩ := min_spec h.good hl
  refine ⟨drop_good ord_lt h.good _, ?_, fun k v hg => ?_, fun _ k v hg => ?_⟩
  · rw [drop_length, ← get_isSome, h1]
    simp
    have := h.len
    omega
  · rw [drop_get ord_lt h.good] at hg
    split at hg
    · cases hg
    · exact h.mem k v hg
  · rw [drop_get ord_lt h.good] at hg
    split at hg
    · cases hg
    · exact h2 k v hg

set_option maxRecDepth 100000 in
set_option maxHeartbeats 8000000 in
theorem heapSorts_walk (a0 : Option Addr) (cap0 : Nat) (z : List Int) (w : World) (w0 : IsInts .i64 w a0 z) :
    Calls Try.prog 3 #[.slice a0 z.length cap0] w fun e w' => e = .returned (.bool true) ∧ Below w.heap.size w w' := by
  go_enter Try.func3, Try.ntmps3
  go_wp2_with fail
  refine (head_any _).mono ?_
  rintro e v0 ⟨rfl, hB0⟩
  by_cases hlen : 200 < z.length
  · have g1 : (200 : Int) < (z.length : Int) := by omega
    go_wp2_with fail
    go_ret
    exact ⟨rfl, hB0⟩
  have g1 : ¬ (200 : Int) < (z.length : Int) := by omega
  go_wp2_with fail
  refine (newB v0).mono ?_
  rintro e v1 ⟨hb, rfl, h1, hBn⟩
  obtain ⟨base, hbase⟩ : ∃ base, v0.heap.size = base := ⟨_, rfl⟩
  rw [hbase] at h1
  have hwb : w.heap.size ≤ base := by have := hB0.size; omega
  have hB1 : Below w.heap.size w v1 := hB0.trans (hBn.mono hB0.size)
  clear hBn hB0 hbase
  go_wp2_with fail
  go_loopw [22] (fun x wr => ∃ (i : Nat) (l : List (Int × Int)), x = .int .i64 i ∧ i ≤ z.length ∧ Upto z i l ∧ HB wr base hb l ∧ Below w.heap.size w wr) (fun x _ => z.length - (intOf x).toNat)
  case atStart => exact ⟨0, [], rfl, by omega, ⟨HeapPure.Good.nil, rfl, fun k => by rw [get_nil, if_neg (by omega)]⟩, h1, hB1⟩
  case round =>
    clear h1 hB1
    obtain ⟨i, l, rfl, hi, hu, h, hB⟩ := hrel
    by_cases hlt : i < z.length
    · obtain ⟨c, off, rfl, hcell⟩ := w0.2.2 i hlt
      have hcell := arg_cell hB hcell
      have j1 : (i : Int) < (z.length : Int) := by omega
      have hun := hu.next
      have hs := setB base hb l i (z.getD i 0) (by exact WalkArith.wf_i64 (by omega)) (by have := hu.len; omega) wr h
      generalize z.getD i 0 = n at *
      clear hu
      go_wp2_with fail
      refine hs.mono ?_
      rintro e w2 ⟨rfl, h2, k2⟩
      have hB2 := hB.trans (k2.mono hwb)
      clear hs h hB k2 hcell
      go_wp2_with fail
      go_roundw
      case rel => exact ⟨i + 1, _, by go_num, by omega, hun, h2, hB2⟩
      case measure => simp [intOf]; omega
    · obtain rfl : i = z.length := by omega
      have hs := Left.start hu
      clear hu
      go_wp2_with fail
      go_loopw [34, 6] (fun x y wr => ∃ (j : Nat) (last : Int) (l : List (Int × Int)), x = .int .i64 j ∧ y = .int .i64 last ∧ j ≤ z.length ∧ Left z z.length j last l ∧ HB wr base hb l ∧ Below w.heap.size w wr) (fun x _ _ => z.length - (intOf x).toNat)
      case atStart => exact ⟨0, 0, l, rfl, rfl, by omega, hs, h, hB⟩
      case round =>
        clear hs h hB
        obtain ⟨j, last, l, rfl, rfl, hj, hL, h, hB⟩ := hrel
        have hll := hL.len
        by_cases hlt : j < z.length
        · have j1 : (j : Int) < (z.length : Int) := by omega
          have hl : 0 < l.length := by omega
          have hm := minB base hb l hl wr h
          obtain ⟨hg, -⟩ := min_spec hL.good hl
          obtain ⟨kn, hkk, hkn, hzv⟩ := hL.mem _ _ hg
          have hge := fun hp => hL.ge hp _ _ hg
          have hnx := hL.next hl
          have hd := fun W (hW : HB W base hb l) => dropB base hb l (kk l 0) (by rw [hkk]; exact WalkArith.wf_i64 (by omega)) (by rw [hg]; rfl) W hW
          obtain ⟨c, off, rfl, hcell⟩ := w0.2.2 kn hkn
          rw [hzv] at hcell
          rw [hkk] at hm hd hnx
          have k1 : (kn : Int) < (z.length : Int) := by omega
          have k2 : ¬ (kn : Int) < 0 := by omega
          generalize vv l 0 = v at *
          clear hg hkk hzv hL h
          by_cases hp : 0 < j
          · have hp' : (0 : Int) < (j : Int) := by omega
            have hge := hge hp
            have hge' : ¬ v < last := by omega
            go_wp2_with fail
            refine hm.mono ?_
            rintro e w2 ⟨rfl, h2, q2⟩
            have hB2 := hB.trans (q2.mono hwb)
            have hcell := arg_cell hB2 hcell
            clear hm hB q2
            go_wp2_with fail
            refine (hd _ h2).mono ?_
            rintro e w3 ⟨rfl, h3, q3⟩
            have hB3 := hB2.trans (q3.mono hwb)
            clear hd h2 hB2 q3 hcell
            go_wp2_with fail
            go_roundw
            case rel => exact ⟨j + 1, v, _, by go_num, rfl, by omega, hnx, h3, hB3⟩
            case measure => simp [intOf]; omega
          · have hp' : ¬ (0 : Int) < (j : Int) := by omega
            clear hge
            go_wp2_with fail
            refine hm.mono ?_
            rintro e w2 ⟨rfl, h2, q2⟩
            have hB2 := hB.trans (q2.mono hwb)
            have hcell := arg_cell hB2 hcell
            clear hm hB q2
            go_wp2_with fail
            refine (hd _ h2).mono ?_
            rintro e w3 ⟨rfl, h3, q3⟩
            have hB3 := hB2.trans (q3.mono hwb)
            clear hd h2 hB2 q3 hcell
            go_wp2_with fail
            go_roundw
            case rel => exact ⟨j + 1, v, _, by go_num, rfl, by omega, hnx, h3, hB3⟩
            case measure => simp [intOf]; omega
        · obtain rfl : l = [] := List.length_eq_zero_iff.1 (by omega)
          have j1 : ¬ (j : Int) < (z.length : Int) := by omega
          have hm := minB0 base hb wr h
          go_wp2_with fail
          refine hm.mono ?_
          rintro e w2 ⟨rfl, h2, q2⟩
          have hB2 := hB.trans (q2.mono hwb)
          have hlb : Calls Try.prog 13 #[.pointer (some ⟨hb, 0, none⟩)] w2 fun e w' => e = .returned (.int .i64 0) ∧ w2 = w' := lenB base hb [] w2 h2
          clear hm
          go_wp2_with fail
          refine hlb.mono ?_
          rintro e w3 ⟨rfl, rfl⟩
          go_wp2_with fail
          go_ret
          exact ⟨rfl, hB2⟩
end Go.Proofs.Ytbnpipfmeekbdaa
