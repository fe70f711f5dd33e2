/- Whatever is done to a bucket: each answer, and how many tokens there are: the walk. -/
import Derived.Test.YtncejfdpgjdoaaaHead
import Derived.Test.YtncejfdpgjdoaaaArgs
import Derived.Test.YtncejfdpgjdoaaaBits
import Derived.Handy
namespace Go.Proofs.Ytncejfdpgjdoaaa
open Go.RowKit Go.Kpt
set_option linter.unusedVariables false
attribute [local go_sem] i64_and7

theorem box_cell (w : World) (cs : Array Value) (t : TypeId) (j : Nat) : (w.alloc (.cells cs t)).cell? ⟨w.heap.size, j, none⟩ = cs[j]? := cell_of (heap_alloc_new w (.cells cs t))

set_option maxRecDepth 100000 in
set_option maxHeartbeats 4000000 in
theorem bucketActs_walk (size refill : Int) (a2 : Option Addr) (cap2 : Nat) (z2 : List (Nat → Int)) (w : World)
    (w0 : (Lit.int .i64 size).wf = true) (w1 : (Lit.int .i64 refill).wf = true) (w2 : IsStructs 3 w a2 z2) :
    Calls Try.prog 6 #[.int .i64 size, .int .i64 refill, .slice a2 z2.length cap2] w fun e w' => e = .returned (.bool true) ∧ Below w.heap.size w w' := by
  have hl := w2.1
  unfold maxLen at hl
  by_cases h200 : 200 < z2.length
  · go_enter Try.func6, Try.ntmps6
    go_wp2_with fail
    refine (head_any _).mono ?_
    rintro e wa ⟨rfl, hB⟩
    go_wp2_with fail
    go_ret
    exact ⟨rfl, hB⟩
  · go_enter Try.func6, Try.ntmps6
    go_wp2_with fail
    refine (head_any _).mono ?_
    rintro e wa ⟨rfl, hB⟩
    go_wp2_with fail
    refine (new_any _ _ _).mono ?_
    rintro e wb ⟨rfl, hb1, hB1, hs1⟩
    go_wp2_with fail
    refine (lawBound_any _ _).mono ?_
    rintro e wc ⟨rfl, rfl⟩
    go_wp2_with fail
    refine (lawBound_any _ _).mono ?_
    rintro e wc ⟨rfl, rfl⟩
    have bs := bnd_le size
    have br := bnd_le refill
    generalize bnd size = s at *
    generalize bnd refill = r at *
    have hab := hB.size
    have hBb : Below w.heap.size w wb := hB.trans (hB1.mono (by omega))
    clear hs1 hB1
    generalize wa.heap.size = ba at *
    clear hB
    go_wp2_with fail
    go_loopw [8, 9, 10, 28] (fun m c n i wr => ∃ (k : Nat) (s r t : Int), k ≤ z2.length ∧ i = .int .i64 k ∧ m = .int .i64 s ∧ c = .int .i64 r ∧ n = .int .i64 t ∧ Bk wr ba s r t ∧ 0 ≤ t ∧ t ≤ s ∧ s ≤ 1000 ∧ 0 ≤ r ∧ r ≤ 1000 ∧ Below w.heap.size w wr) (fun _ _ _ i _ => z2.length - (intOf i).toNat)
    case atStart => exact ⟨0, s, r, s, by omega, rfl, rfl, rfl, rfl, hb1, by omega, by omega, by omega, by omega, by omega, hBb⟩
    case round =>
      clear hb1 hBb bs br
      obtain ⟨k, s, r, t, hk, rfl, rfl, rfl, rfl, hb, h0, h1, h2, h3, h4, hB⟩ := hrel
      by_cases hlt : k < z2.length
      · obtain ⟨b, off, rfl, hc⟩ := w2.2.2 k hlt
        have c0 : wr.cell? ⟨b, off + k * 3, none⟩ = _ := arg_cell hB (hc 0 (by omega))
        have c1 := arg_cell hB (hc 1 (by omega))
        have c2 := arg_cell hB (hc 2 (by omega))
        clear hc
        generalize z2.getD k (fun _ => 0) = f at *
        have hsz := hB.size
        by_cases k6 : f 0 % 8 = 6
        · go_wp2_with fail
          refine (set_any _ _ _ _ _ _ _ (hb.alloc _)).mono ?_
          rintro e wd ⟨rfl, hd, kd⟩
          have q1 : wd.cell? ⟨wr.heap.size, 1, none⟩ = some (.int .i64 (f 1)) := (kd.cell (p := ⟨wr.heap.size, 1, none⟩) (by simp) (fun e => absurd e (Nat.ne_of_gt hb.lt))).trans (box_cell _ _ _ 1)
          have q2 : wd.cell? ⟨wr.heap.size, 2, none⟩ = some (.int .i64 (f 2)) := (kd.cell (p := ⟨wr.heap.size, 2, none⟩) (by simp) (fun e => absurd e (Nat.ne_of_gt hb.lt))).trans (box_cell _ _ _ 2)
          go_wp2_with fail
          refine (lawBound_any _ _).mono ?_
          rintro e we ⟨rfl, rfl⟩
          go_wp2_with fail
          refine (lawBound_any _ _).mono ?_
          rintro e we ⟨rfl, rfl⟩
          have bs := bnd_le (f 1)
          have br := bnd_le (f 2)
          generalize bnd (f 1) = s2 at *
          generalize bnd (f 2) = r2 at *
          have hBd : Below w.heap.size w wd := (hB.alloc hB.size _).trans (kd.below (by simp; omega) (fun x hx e => by omega))
          clear kd hB q1 q2
          by_cases hle : t ≤ s2
          · rw [if_pos hle] at hd
            go_wp2_with fail
            refine (tokens_any _ _ _ _ _ hd).mono ?_
            rintro e we ⟨rfl, rfl⟩
            go_wp2_with fail
            go_roundw
            case rel => exact ⟨k + 1, s2, r2, t, by omega, by go_num, rfl, rfl, rfl, hd, by omega, by omega, by omega, by omega, by omega, hBd⟩
            case measure => simp [intOf]; omega
          · rw [if_neg (by omega)] at hd
            go_wp2_with fail
            refine (tokens_any _ _ _ _ _ hd).mono ?_
            rintro e we ⟨rfl, rfl⟩
            go_wp2_with fail
            go_roundw
            case rel => exact ⟨k + 1, s2, r2, s2, by omega, by go_num, rfl, rfl, rfl, hd, by omega, by omega, by omega, by omega, by omega, hBd⟩
            case measure => simp [intOf]; omega
        · by_cases k4 : f 0 % 8 = 4
          · by_cases hle : t + r ≤ s
            · go_wp2_with fail
              refine (tick_any _ _ _ _ _ (hb.alloc _) (by omega) (by omega) (by omega) (by omega)).mono ?_
              rintro e wd ⟨rfl, hd, kd⟩
              rw [if_pos hle] at hd
              have hBd : Below w.heap.size w wd := (hB.alloc hB.size _).trans (kd.below (by simp; omega) (fun x hx e => by omega))
              clear kd hB
              go_wp2_with fail
              refine (tokens_any _ _ _ _ _ hd).mono ?_
              rintro e we ⟨rfl, rfl⟩
              go_wp2_with fail
              go_roundw
              case rel => exact ⟨k + 1, s, r, t + r, by omega, by go_num, rfl, rfl, rfl, hd, by omega, by omega, by omega, by omega, by omega, hBd⟩
              case measure => simp [intOf]; omega
            · go_wp2_with fail
              refine (tick_any _ _ _ _ _ (hb.alloc _) (by omega) (by omega) (by omega) (by omega)).mono ?_
              rintro e wd ⟨rfl, hd, kd⟩
              rw [if_neg (by omega)] at hd
              have hBd : Below w.heap.size w wd := (hB.alloc hB.size _).trans (kd.below (by simp; omega) (fun x hx e => by omega))
              clear kd hB
              go_wp2_with fail
              refine (tokens_any _ _ _ _ _ hd).mono ?_
              rintro e we ⟨rfl, rfl⟩
              go_wp2_with fail
              go_roundw
              case rel => exact ⟨k + 1, s, r, s, by omega, by go_num, rfl, rfl, rfl, hd, by omega, by omega, by omega, by omega, by omega, hBd⟩
              case measure => simp [intOf]; omega
          · by_cases k5 : f 0 % 8 = 5
            · by_cases hle : t + r ≤ s
              · go_wp2_with fail
                refine (tick_any _ _ _ _ _ (hb.alloc _) (by omega) (by omega) (by omega) (by omega)).mono ?_
                rintro e wd ⟨rfl, hd, kd⟩
                rw [if_pos hle] at hd
                have hBd : Below w.heap.size w wd := (hB.alloc hB.size _).trans (kd.below (by simp; omega) (fun x hx e => by omega))
                clear kd hB
                go_wp2_with fail
                refine (tokens_any _ _ _ _ _ hd).mono ?_
                rintro e we ⟨rfl, rfl⟩
                go_wp2_with fail
                go_roundw
                case rel => exact ⟨k + 1, s, r, t + r, by omega, by go_num, rfl, rfl, rfl, hd, by omega, by omega, by omega, by omega, by omega, hBd⟩
                case measure => simp [intOf]; omega
              · go_wp2_with fail
                refine (tick_any _ _ _ _ _ (hb.alloc _) (by omega) (by omega) (by omega) (by omega)).mono ?_
                rintro e wd ⟨rfl, hd, kd⟩
                rw [if_neg (by omega)] at hd
                have hBd : Below w.heap.size w wd := (hB.alloc hB.size _).trans (kd.below (by simp; omega) (fun x hx e => by omega))
                clear kd hB
                go_wp2_with fail
                refine (tokens_any _ _ _ _ _ hd).mono ?_
                rintro e we ⟨rfl, rfl⟩
                go_wp2_with fail
                go_roundw
                case rel => exact ⟨k + 1, s, r, s, by omega, by go_num, rfl, rfl, rfl, hd, by omega, by omega, by omega, by omega, by omega, hBd⟩
                case measure => simp [intOf]; omega
            · by_cases k7 : f 0 % 8 = 7
              · by_cases hle : t + r ≤ s
                · go_wp2_with fail
                  refine (tick_any _ _ _ _ _ (hb.alloc _) (by omega) (by omega) (by omega) (by omega)).mono ?_
                  rintro e wd ⟨rfl, hd, kd⟩
                  rw [if_pos hle] at hd
                  have hBd : Below w.heap.size w wd := (hB.alloc hB.size _).trans (kd.below (by simp; omega) (fun x hx e => by omega))
                  clear kd hB
                  go_wp2_with fail
                  refine (tokens_any _ _ _ _ _ hd).mono ?_
                  rintro e we ⟨rfl, rfl⟩
                  go_wp2_with fail
                  go_roundw
                  case rel => exact ⟨k + 1, s, r, t + r, by omega, by go_num, rfl, rfl, rfl, hd, by omega, by omega, by omega, by omega, by omega, hBd⟩
                  case measure => simp [intOf]; omega
                · go_wp2_with fail
                  refine (tick_any _ _ _ _ _ (hb.alloc _) (by omega) (by omega) (by omega) (by omega)).mono ?_
                  rintro e wd ⟨rfl, hd, kd⟩
                  rw [if_neg (by omega)] at hd
                  have hBd : Below w.heap.size w wd := (hB.alloc hB.size _).trans (kd.below (by simp; omega) (fun x hx e => by omega))
                  clear kd hB
                  go_wp2_with fail
                  refine (tokens_any _ _ _ _ _ hd).mono ?_
                  rintro e we ⟨rfl, rfl⟩
                  go_wp2_with fail
                  go_roundw
                  case rel => exact ⟨k + 1, s, r, s, by omega, by go_num, rfl, rfl, rfl, hd, by omega, by omega, by omega, by omega, by omega, hBd⟩
                  case measure => simp [intOf]; omega
              · by_cases hp : 0 < t
                · go_wp2_with fail
                  refine (take_yes _ _ _ _ _ (hb.alloc _) (by omega) (by omega)).mono ?_
                  rintro e wd ⟨rfl, hd, kd⟩
                  have hBd : Below w.heap.size w wd := (hB.alloc hB.size _).trans (kd.below (by simp; omega) (fun x hx e => by omega))
                  clear kd hB
                  go_wp2_with fail
                  refine (tokens_any _ _ _ _ _ hd).mono ?_
                  rintro e we ⟨rfl, rfl⟩
                  go_wp2_with fail
                  go_roundw
                  case rel => exact ⟨k + 1, s, r, t - 1, by omega, by go_num, rfl, rfl, rfl, hd, by omega, by omega, by omega, by omega, by omega, hBd⟩
                  case measure => simp [intOf]; omega
                · obtain rfl : t = 0 := by omega
                  go_wp2_with fail
                  refine (take_no _ _ _ _ (hb.alloc _)).mono ?_
                  rintro e wd ⟨rfl, rfl⟩
                  have hb' := hb.alloc (.cells #[.int .i64 (f 0), .int .i64 (f 1), .int .i64 (f 2)] 32)
                  go_wp2_with fail
                  refine (tokens_any _ _ _ _ _ hb').mono ?_
                  rintro e we ⟨rfl, rfl⟩
                  go_wp2_with fail
                  go_roundw
                  case rel => exact ⟨k + 1, s, r, 0, by omega, by go_num, rfl, rfl, rfl, hb', by omega, by omega, by omega, by omega, by omega, hB.alloc hB.size _⟩
                  case measure => simp [intOf]; omega
      · go_wp2_with fail
        go_ret
        exact ⟨rfl, hB⟩
end Go.Proofs.Ytncejfdpgjdoaaa
