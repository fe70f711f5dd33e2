/- There is never more than one call in a sandbox: the walk. -/
import Derived.Test.YtjehcgmbkhekmaaSteps
namespace Go.Proofs.Ytjehcgmbkhekmaa
open Go.RowKit Go.Kpt
set_option linter.unusedVariables false
attribute [local go_sem] i64_and3

theorem emod4 (n : Int) : n % 4 = 0 ∨ n % 4 = 1 ∨ n % 4 = 2 ∨ n % 4 = 3 := by omega

set_option maxRecDepth 100000 in
set_option maxHeartbeats 8000000 in
theorem boxOnes_walk (a0 : Option Addr) (cap0 : Nat) (z0 : List Int) (w : World) (w0 : IsInts .i64 w a0 z0) :
    Calls Try.prog 4 #[.slice a0 z0.length cap0] w fun e w' => e = .returned (.bool true) ∧ Below w.heap.size w w' := by
  go_enter Try.func4, Try.ntmps4
  go_wp2_with fail
  refine (head_any _).mono ?_
  rintro e w1 ⟨rfl, hB1⟩
  by_cases hb1 : 200 < z0.length
  · have g1 : (200 : Int) < (z0.length : Int) := by omega
    go_wp2_with fail
    go_ret
    exact ⟨rfl, hB1⟩
  have g1 : ¬ (200 : Int) < (z0.length : Int) := by omega
  go_wp2_with fail
  refine (new_any 1 1 1 1 0 _).mono ?_
  rintro e w2 ⟨rfl, h2, hB2, hs2⟩
  have hZ : Below w.heap.size w w2 := hB1.trans (hB2.mono hB1.size)
  have hbase := hB1.size
  obtain ⟨b, hb⟩ : ∃ b, w1.heap.size = b := ⟨_, rfl⟩
  rw [hb] at h2 hbase ⊢
  have hblt := lt_of h2
  have hcells := w0.2.2
  clear hB1 hB2 hs2 hb w0
  go_wp2_with fail
  go_loopw [16, 4, 5] (fun x y z wr => ∃ (i : Nat) (q : Bx) (R D : Bool), x = .int .i64 i ∧ i ≤ z0.length ∧ q.st < 4 ∧ runs q = R ∧ decide (q.st = 3) = D ∧ y = .int .i64 (if R then 1 else 0) ∧ z = .bool D ∧ Bq wr b q ∧ Kept (fun x => x = b) w2 wr) (fun x _ _ _ => z0.length - (intOf x).toNat)
  case atStart => exact ⟨0, _, false, false, rfl, by omega, by decide, rfl, rfl, rfl, rfl, h2, Kept.refl _ _⟩
  case round =>
    clear h2
    obtain ⟨i, q, R, D, rfl, hi, hq4, hR, hD, rfl, rfl, hq, hK⟩ := hrel
    by_cases hlt : i < z0.length
    · obtain ⟨c, off, rfl, hcell⟩ := hcells i hlt
      have hc := block_lt_of_cell hcell
      have hcell := (hK.cell (p := ⟨c, off + i, none⟩) (show c < _ by have := hZ.size; simp at hc; omega) (show ¬ c = b by simp at hc; omega)).trans (arg_cell hZ hcell)
      obtain ⟨n, hn⟩ : ∃ n, z0.getD i 0 = n := ⟨_, rfl⟩
      rw [hn] at hcell
      have j1 : (i : Int) < (z0.length : Int) := by omega
      clear hn hc hcells
      have hcombo : (R = false ∧ D = false) ∨ (R = true ∧ D = false) ∨ (R = false ∧ D = true) := by
        cases R
        · cases D <;> simp
        · cases D
          · simp
          · have := runs_dead (of_decide_eq_true hD); rw [this] at hR; cases hR
      rcases hcombo with ⟨rfl, rfl⟩ | ⟨rfl, rfl⟩ | ⟨rfl, rfl⟩
      · have hD := of_decide_eq_false hD
        rcases emod4 n with hm | hm | hm | hm
        · cases hok : (call q i).2
          · obtain ⟨y, hy⟩ : ∃ y, (call q i).1 = y := ⟨_, rfl⟩
            have hy4 : y.st < 4 := by rw [← hy]; exact call_st _ hq4
            have hyR : runs y = false := by rw [← hy, call_f hok]; exact hR
            have hyD : ¬ y.st = 3 := by rw [← hy, call_f hok]; exact hD

            have hcon := call_any b q i wr hq hq4
            rw [hok, hy] at hcon
            clear hy hok hR hD hq
            go_wp2_with fail
            refine hcon.mono ?_
            rintro e w3 ⟨rfl, h3, hk3⟩
            clear hcon

            have hrq := runs_any b y w3 h3 hy4
            rw [hyR] at hrq
            obtain ⟨-, -, -, -, c4, -, -, -⟩ := h3.cells
            have d4 : (((y).st : Int) == 3) = false := by simp; omega
            go_wp2_with fail
            refine hrq.mono ?_
            rintro e w4 ⟨rfl, hB4⟩
            have h4 := h3.below hB4
            obtain ⟨-, -, -, -, c4', -, -, -⟩ := h4.cells
            have hK4 : Kept (fun x => x = b) w2 w4 := (hK.trans hk3 (fun _ _ h => h)).trans (Kept.of_below (F := fun _ => False) hB4) (fun _ _ h => h.elim)
            clear hrq c4
            go_wp2_with fail
            go_roundw
            case rel => exact ⟨i + 1, y, false, false, by go_num, by omega, hy4, hyR, by rw [decide_eq_false_iff_not]; exact hyD, rfl, rfl, h4, hK4⟩
            case measure => simp [intOf]; omega
          · obtain ⟨y, hy⟩ : ∃ y, (call q i).1 = y := ⟨_, rfl⟩
            have hy4 : y.st < 4 := by rw [← hy]; exact call_st _ hq4
            have hyR : runs y = true := by rw [← hy]; exact (call_t hok).2.2.1
            have hyD : ¬ y.st = 3 := by rw [← hy]; exact (call_t hok).2.2.2

            have hcon := call_any b q i wr hq hq4
            rw [hok, hy] at hcon
            clear hy hok hR hD hq
            go_wp2_with fail
            refine hcon.mono ?_
            rintro e w3 ⟨rfl, h3, hk3⟩
            clear hcon

            have hrq := runs_any b y w3 h3 hy4
            rw [hyR] at hrq
            obtain ⟨-, -, -, -, c4, -, -, -⟩ := h3.cells
            have d4 : (((y).st : Int) == 3) = false := by simp; omega
            go_wp2_with fail
            refine hrq.mono ?_
            rintro e w4 ⟨rfl, hB4⟩
            have h4 := h3.below hB4
            obtain ⟨-, -, -, -, c4', -, -, -⟩ := h4.cells
            have hK4 : Kept (fun x => x = b) w2 w4 := (hK.trans hk3 (fun _ _ h => h)).trans (Kept.of_below (F := fun _ => False) hB4) (fun _ _ h => h.elim)
            clear hrq c4
            go_wp2_with fail
            go_roundw
            case rel => exact ⟨i + 1, y, true, false, by go_num, by omega, hy4, hyR, by rw [decide_eq_false_iff_not]; exact hyD, rfl, rfl, h4, hK4⟩
            case measure => simp [intOf]; omega
        · cases hok : (booted q i).2
          · obtain ⟨y, hy⟩ : ∃ y, (booted q i).1 = y := ⟨_, rfl⟩
            have hy4 : y.st < 4 := by rw [← hy]; exact booted_st _ hq4
            have hyR : runs y = false := by rw [← hy, booted_f hok]; exact hR
            have hyD : ¬ y.st = 3 := by rw [← hy, booted_f hok]; exact hD

            have hcon := booted_any b q i wr hq hq4
            rw [hok, hy] at hcon
            clear hy hok hR hD hq
            go_wp2_with fail
            refine hcon.mono ?_
            rintro e w3 ⟨rfl, h3, hk3⟩
            clear hcon

            have hrq := runs_any b y w3 h3 hy4
            rw [hyR] at hrq
            obtain ⟨-, -, -, -, c4, -, -, -⟩ := h3.cells
            have d4 : (((y).st : Int) == 3) = false := by simp; omega
            go_wp2_with fail
            refine hrq.mono ?_
            rintro e w4 ⟨rfl, hB4⟩
            have h4 := h3.below hB4
            obtain ⟨-, -, -, -, c4', -, -, -⟩ := h4.cells
            have hK4 : Kept (fun x => x = b) w2 w4 := (hK.trans hk3 (fun _ _ h => h)).trans (Kept.of_below (F := fun _ => False) hB4) (fun _ _ h => h.elim)
            clear hrq c4
            go_wp2_with fail
            go_roundw
            case rel => exact ⟨i + 1, y, false, false, by go_num, by omega, hy4, hyR, by rw [decide_eq_false_iff_not]; exact hyD, rfl, rfl, h4, hK4⟩
            case measure => simp [intOf]; omega
          · obtain ⟨y, hy⟩ : ∃ y, (booted q i).1 = y := ⟨_, rfl⟩
            have hy4 : y.st < 4 := by rw [← hy]; exact booted_st _ hq4
            have hyR : runs y = false := by rw [← hy, (booted_t hok).2.1]; exact hR
            have hyD : ¬ y.st = 3 := by rw [← hy]; exact (booted_t hok).2.2

            have hcon := booted_any b q i wr hq hq4
            rw [hok, hy] at hcon
            clear hy hok hR hD hq
            go_wp2_with fail
            refine hcon.mono ?_
            rintro e w3 ⟨rfl, h3, hk3⟩
            clear hcon

            have hrq := runs_any b y w3 h3 hy4
            rw [hyR] at hrq
            obtain ⟨-, -, -, -, c4, -, -, -⟩ := h3.cells
            have d4 : (((y).st : Int) == 3) = false := by simp; omega
            go_wp2_with fail
            refine hrq.mono ?_
            rintro e w4 ⟨rfl, hB4⟩
            have h4 := h3.below hB4
            obtain ⟨-, -, -, -, c4', -, -, -⟩ := h4.cells
            have hK4 : Kept (fun x => x = b) w2 w4 := (hK.trans hk3 (fun _ _ h => h)).trans (Kept.of_below (F := fun _ => False) hB4) (fun _ _ h => h.elim)
            clear hrq c4
            go_wp2_with fail
            go_roundw
            case rel => exact ⟨i + 1, y, false, false, by go_num, by omega, hy4, hyR, by rw [decide_eq_false_iff_not]; exact hyD, rfl, rfl, h4, hK4⟩
            case measure => simp [intOf]; omega
        · cases hok : (done q i).2
          · obtain ⟨y, hy⟩ : ∃ y, (done q i).1 = y := ⟨_, rfl⟩
            have hy4 : y.st < 4 := by rw [← hy]; exact done_st _ hq4
            have hyR : runs y = false := by rw [← hy, done_f hok]; exact hR
            have hyD : ¬ y.st = 3 := by rw [← hy, done_f hok]; exact hD

            have hcon := done_any b q i wr hq hq4
            rw [hok, hy] at hcon
            clear hy hok hR hD hq
            go_wp2_with fail
            refine hcon.mono ?_
            rintro e w3 ⟨rfl, h3, hk3⟩
            clear hcon

            have hrq := runs_any b y w3 h3 hy4
            rw [hyR] at hrq
            obtain ⟨-, -, -, -, c4, -, -, -⟩ := h3.cells
            have d4 : (((y).st : Int) == 3) = false := by simp; omega
            go_wp2_with fail
            refine hrq.mono ?_
            rintro e w4 ⟨rfl, hB4⟩
            have h4 := h3.below hB4
            obtain ⟨-, -, -, -, c4', -, -, -⟩ := h4.cells
            have hK4 : Kept (fun x => x = b) w2 w4 := (hK.trans hk3 (fun _ _ h => h)).trans (Kept.of_below (F := fun _ => False) hB4) (fun _ _ h => h.elim)
            clear hrq c4
            go_wp2_with fail
            go_roundw
            case rel => exact ⟨i + 1, y, false, false, by go_num, by omega, hy4, hyR, by rw [decide_eq_false_iff_not]; exact hyD, rfl, rfl, h4, hK4⟩
            case measure => simp [intOf]; omega
          · have := (done_t hok).1; rw [hR] at this; cases this
        · cases hok : (kill q i).2
          · exact absurd (kill_f hok).1 hD
          · obtain ⟨y, hy⟩ : ∃ y, (kill q i).1 = y := ⟨_, rfl⟩
            have hy4 : y.st < 4 := by rw [← hy]; exact kill_st _ hq4
            have hyR : runs y = false := by rw [← hy]; exact (kill_t hok).2.1
            have hyD : y.st = 3 := by rw [← hy]; exact (kill_t hok).2.2

            have hcon := kill_any b q i wr hq hq4
            rw [hok, hy] at hcon
            clear hy hok hR hD hq
            go_wp2_with fail
            refine hcon.mono ?_
            rintro e w3 ⟨rfl, h3, hk3⟩
            clear hcon

            have hrq := runs_any b y w3 h3 hy4
            rw [hyR] at hrq
            obtain ⟨-, -, -, -, c4, -, -, -⟩ := h3.cells
            have d4 : (((y).st : Int) == 3) = true := by simp; omega
            go_wp2_with fail
            refine hrq.mono ?_
            rintro e w4 ⟨rfl, hB4⟩
            have h4 := h3.below hB4
            obtain ⟨-, -, -, -, c4', -, -, -⟩ := h4.cells
            have hK4 : Kept (fun x => x = b) w2 w4 := (hK.trans hk3 (fun _ _ h => h)).trans (Kept.of_below (F := fun _ => False) hB4) (fun _ _ h => h.elim)
            clear hrq c4
            go_wp2_with fail
            go_roundw
            case rel => exact ⟨i + 1, y, false, true, by go_num, by omega, hy4, hyR, by rw [decide_eq_true_iff]; exact hyD, rfl, rfl, h4, hK4⟩
            case measure => simp [intOf]; omega
      · have hD := of_decide_eq_false hD
        rcases emod4 n with hm | hm | hm | hm
        · cases hok : (call q i).2
          · obtain ⟨y, hy⟩ : ∃ y, (call q i).1 = y := ⟨_, rfl⟩
            have hy4 : y.st < 4 := by rw [← hy]; exact call_st _ hq4
            have hyR : runs y = true := by rw [← hy, call_f hok]; exact hR
            have hyD : ¬ y.st = 3 := by rw [← hy, call_f hok]; exact hD

            have hcon := call_any b q i wr hq hq4
            rw [hok, hy] at hcon
            clear hy hok hR hD hq
            go_wp2_with fail
            refine hcon.mono ?_
            rintro e w3 ⟨rfl, h3, hk3⟩
            clear hcon

            have hrq := runs_any b y w3 h3 hy4
            rw [hyR] at hrq
            obtain ⟨-, -, -, -, c4, -, -, -⟩ := h3.cells
            have d4 : (((y).st : Int) == 3) = false := by simp; omega
            go_wp2_with fail
            refine hrq.mono ?_
            rintro e w4 ⟨rfl, hB4⟩
            have h4 := h3.below hB4
            obtain ⟨-, -, -, -, c4', -, -, -⟩ := h4.cells
            have hK4 : Kept (fun x => x = b) w2 w4 := (hK.trans hk3 (fun _ _ h => h)).trans (Kept.of_below (F := fun _ => False) hB4) (fun _ _ h => h.elim)
            clear hrq c4
            go_wp2_with fail
            go_roundw
            case rel => exact ⟨i + 1, y, true, false, by go_num, by omega, hy4, hyR, by rw [decide_eq_false_iff_not]; exact hyD, rfl, rfl, h4, hK4⟩
            case measure => simp [intOf]; omega
          · have := (call_t hok).1; rw [hR] at this; cases this
        · cases hok : (booted q i).2
          · obtain ⟨y, hy⟩ : ∃ y, (booted q i).1 = y := ⟨_, rfl⟩
            have hy4 : y.st < 4 := by rw [← hy]; exact booted_st _ hq4
            have hyR : runs y = true := by rw [← hy, booted_f hok]; exact hR
            have hyD : ¬ y.st = 3 := by rw [← hy, booted_f hok]; exact hD

            have hcon := booted_any b q i wr hq hq4
            rw [hok, hy] at hcon
            clear hy hok hR hD hq
            go_wp2_with fail
            refine hcon.mono ?_
            rintro e w3 ⟨rfl, h3, hk3⟩
            clear hcon

            have hrq := runs_any b y w3 h3 hy4
            rw [hyR] at hrq
            obtain ⟨-, -, -, -, c4, -, -, -⟩ := h3.cells
            have d4 : (((y).st : Int) == 3) = false := by simp; omega
            go_wp2_with fail
            refine hrq.mono ?_
            rintro e w4 ⟨rfl, hB4⟩
            have h4 := h3.below hB4
            obtain ⟨-, -, -, -, c4', -, -, -⟩ := h4.cells
            have hK4 : Kept (fun x => x = b) w2 w4 := (hK.trans hk3 (fun _ _ h => h)).trans (Kept.of_below (F := fun _ => False) hB4) (fun _ _ h => h.elim)
            clear hrq c4
            go_wp2_with fail
            go_roundw
            case rel => exact ⟨i + 1, y, true, false, by go_num, by omega, hy4, hyR, by rw [decide_eq_false_iff_not]; exact hyD, rfl, rfl, h4, hK4⟩
            case measure => simp [intOf]; omega
          · obtain ⟨y, hy⟩ : ∃ y, (booted q i).1 = y := ⟨_, rfl⟩
            have hy4 : y.st < 4 := by rw [← hy]; exact booted_st _ hq4
            have hyR : runs y = true := by rw [← hy, (booted_t hok).2.1]; exact hR
            have hyD : ¬ y.st = 3 := by rw [← hy]; exact (booted_t hok).2.2

            have hcon := booted_any b q i wr hq hq4
            rw [hok, hy] at hcon
            clear hy hok hR hD hq
            go_wp2_with fail
            refine hcon.mono ?_
            rintro e w3 ⟨rfl, h3, hk3⟩
            clear hcon

            have hrq := runs_any b y w3 h3 hy4
            rw [hyR] at hrq
            obtain ⟨-, -, -, -, c4, -, -, -⟩ := h3.cells
            have d4 : (((y).st : Int) == 3) = false := by simp; omega
            go_wp2_with fail
            refine hrq.mono ?_
            rintro e w4 ⟨rfl, hB4⟩
            have h4 := h3.below hB4
            obtain ⟨-, -, -, -, c4', -, -, -⟩ := h4.cells
            have hK4 : Kept (fun x => x = b) w2 w4 := (hK.trans hk3 (fun _ _ h => h)).trans (Kept.of_below (F := fun _ => False) hB4) (fun _ _ h => h.elim)
            clear hrq c4
            go_wp2_with fail
            go_roundw
            case rel => exact ⟨i + 1, y, true, false, by go_num, by omega, hy4, hyR, by rw [decide_eq_false_iff_not]; exact hyD, rfl, rfl, h4, hK4⟩
            case measure => simp [intOf]; omega
        · cases hok : (done q i).2
          · obtain ⟨y, hy⟩ : ∃ y, (done q i).1 = y := ⟨_, rfl⟩
            have hy4 : y.st < 4 := by rw [← hy]; exact done_st _ hq4
            have hyR : runs y = true := by rw [← hy, done_f hok]; exact hR
            have hyD : ¬ y.st = 3 := by rw [← hy, done_f hok]; exact hD

            have hcon := done_any b q i wr hq hq4
            rw [hok, hy] at hcon
            clear hy hok hR hD hq
            go_wp2_with fail
            refine hcon.mono ?_
            rintro e w3 ⟨rfl, h3, hk3⟩
            clear hcon

            have hrq := runs_any b y w3 h3 hy4
            rw [hyR] at hrq
            obtain ⟨-, -, -, -, c4, -, -, -⟩ := h3.cells
            have d4 : (((y).st : Int) == 3) = false := by simp; omega
            go_wp2_with fail
            refine hrq.mono ?_
            rintro e w4 ⟨rfl, hB4⟩
            have h4 := h3.below hB4
            obtain ⟨-, -, -, -, c4', -, -, -⟩ := h4.cells
            have hK4 : Kept (fun x => x = b) w2 w4 := (hK.trans hk3 (fun _ _ h => h)).trans (Kept.of_below (F := fun _ => False) hB4) (fun _ _ h => h.elim)
            clear hrq c4
            go_wp2_with fail
            go_roundw
            case rel => exact ⟨i + 1, y, true, false, by go_num, by omega, hy4, hyR, by rw [decide_eq_false_iff_not]; exact hyD, rfl, rfl, h4, hK4⟩
            case measure => simp [intOf]; omega
          · obtain ⟨y, hy⟩ : ∃ y, (done q i).1 = y := ⟨_, rfl⟩
            have hy4 : y.st < 4 := by rw [← hy]; exact done_st _ hq4
            have hyR : runs y = false := by rw [← hy]; exact (done_t hok).2.2.1
            have hyD : ¬ y.st = 3 := by rw [← hy]; exact (done_t hok).2.2.2

            have hcon := done_any b q i wr hq hq4
            rw [hok, hy] at hcon
            clear hy hok hR hD hq
            go_wp2_with fail
            refine hcon.mono ?_
            rintro e w3 ⟨rfl, h3, hk3⟩
            clear hcon

            have hrq := runs_any b y w3 h3 hy4
            rw [hyR] at hrq
            obtain ⟨-, -, -, -, c4, -, -, -⟩ := h3.cells
            have d4 : (((y).st : Int) == 3) = false := by simp; omega
            go_wp2_with fail
            refine hrq.mono ?_
            rintro e w4 ⟨rfl, hB4⟩
            have h4 := h3.below hB4
            obtain ⟨-, -, -, -, c4', -, -, -⟩ := h4.cells
            have hK4 : Kept (fun x => x = b) w2 w4 := (hK.trans hk3 (fun _ _ h => h)).trans (Kept.of_below (F := fun _ => False) hB4) (fun _ _ h => h.elim)
            clear hrq c4
            go_wp2_with fail
            go_roundw
            case rel => exact ⟨i + 1, y, false, false, by go_num, by omega, hy4, hyR, by rw [decide_eq_false_iff_not]; exact hyD, rfl, rfl, h4, hK4⟩
            case measure => simp [intOf]; omega
        · cases hok : (kill q i).2
          · exact absurd (kill_f hok).1 hD
          · obtain ⟨y, hy⟩ : ∃ y, (kill q i).1 = y := ⟨_, rfl⟩
            have hy4 : y.st < 4 := by rw [← hy]; exact kill_st _ hq4
            have hyR : runs y = false := by rw [← hy]; exact (kill_t hok).2.1
            have hyD : y.st = 3 := by rw [← hy]; exact (kill_t hok).2.2

            have hcon := kill_any b q i wr hq hq4
            rw [hok, hy] at hcon
            clear hy hok hR hD hq
            go_wp2_with fail
            refine hcon.mono ?_
            rintro e w3 ⟨rfl, h3, hk3⟩
            clear hcon

            have hrq := runs_any b y w3 h3 hy4
            rw [hyR] at hrq
            obtain ⟨-, -, -, -, c4, -, -, -⟩ := h3.cells
            have d4 : (((y).st : Int) == 3) = true := by simp; omega
            go_wp2_with fail
            refine hrq.mono ?_
            rintro e w4 ⟨rfl, hB4⟩
            have h4 := h3.below hB4
            obtain ⟨-, -, -, -, c4', -, -, -⟩ := h4.cells
            have hK4 : Kept (fun x => x = b) w2 w4 := (hK.trans hk3 (fun _ _ h => h)).trans (Kept.of_below (F := fun _ => False) hB4) (fun _ _ h => h.elim)
            clear hrq c4
            go_wp2_with fail
            go_roundw
            case rel => exact ⟨i + 1, y, false, true, by go_num, by omega, hy4, hyR, by rw [decide_eq_true_iff]; exact hyD, rfl, rfl, h4, hK4⟩
            case measure => simp [intOf]; omega
      · have hD := of_decide_eq_true hD
        rcases emod4 n with hm | hm | hm | hm
        · cases hok : (call q i).2
          · obtain ⟨y, hy⟩ : ∃ y, (call q i).1 = y := ⟨_, rfl⟩
            have hy4 : y.st < 4 := by rw [← hy]; exact call_st _ hq4
            have hyR : runs y = false := by rw [← hy, call_f hok]; exact hR
            have hyD : y.st = 3 := by rw [← hy, call_f hok]; exact hD

            have hcon := call_any b q i wr hq hq4
            rw [hok, hy] at hcon
            clear hy hok hR hD hq
            go_wp2_with fail
            refine hcon.mono ?_
            rintro e w3 ⟨rfl, h3, hk3⟩
            clear hcon

            have hrq := runs_any b y w3 h3 hy4
            rw [hyR] at hrq
            obtain ⟨-, -, -, -, c4, -, -, -⟩ := h3.cells
            have d4 : (((y).st : Int) == 3) = true := by simp; omega
            go_wp2_with fail
            refine hrq.mono ?_
            rintro e w4 ⟨rfl, hB4⟩
            have h4 := h3.below hB4
            obtain ⟨-, -, -, -, c4', -, -, -⟩ := h4.cells
            have hK4 : Kept (fun x => x = b) w2 w4 := (hK.trans hk3 (fun _ _ h => h)).trans (Kept.of_below (F := fun _ => False) hB4) (fun _ _ h => h.elim)
            clear hrq c4
            go_wp2_with fail
            go_roundw
            case rel => exact ⟨i + 1, y, false, true, by go_num, by omega, hy4, hyR, by rw [decide_eq_true_iff]; exact hyD, rfl, rfl, h4, hK4⟩
            case measure => simp [intOf]; omega
          · exact absurd hD (call_t hok).2.1
        · cases hok : (booted q i).2
          · obtain ⟨y, hy⟩ : ∃ y, (booted q i).1 = y := ⟨_, rfl⟩
            have hy4 : y.st < 4 := by rw [← hy]; exact booted_st _ hq4
            have hyR : runs y = false := by rw [← hy, booted_f hok]; exact hR
            have hyD : y.st = 3 := by rw [← hy, booted_f hok]; exact hD

            have hcon := booted_any b q i wr hq hq4
            rw [hok, hy] at hcon
            clear hy hok hR hD hq
            go_wp2_with fail
            refine hcon.mono ?_
            rintro e w3 ⟨rfl, h3, hk3⟩
            clear hcon

            have hrq := runs_any b y w3 h3 hy4
            rw [hyR] at hrq
            obtain ⟨-, -, -, -, c4, -, -, -⟩ := h3.cells
            have d4 : (((y).st : Int) == 3) = true := by simp; omega
            go_wp2_with fail
            refine hrq.mono ?_
            rintro e w4 ⟨rfl, hB4⟩
            have h4 := h3.below hB4
            obtain ⟨-, -, -, -, c4', -, -, -⟩ := h4.cells
            have hK4 : Kept (fun x => x = b) w2 w4 := (hK.trans hk3 (fun _ _ h => h)).trans (Kept.of_below (F := fun _ => False) hB4) (fun _ _ h => h.elim)
            clear hrq c4
            go_wp2_with fail
            go_roundw
            case rel => exact ⟨i + 1, y, false, true, by go_num, by omega, hy4, hyR, by rw [decide_eq_true_iff]; exact hyD, rfl, rfl, h4, hK4⟩
            case measure => simp [intOf]; omega
          · exact absurd hD (booted_t hok).1
        · cases hok : (done q i).2
          · obtain ⟨y, hy⟩ : ∃ y, (done q i).1 = y := ⟨_, rfl⟩
            have hy4 : y.st < 4 := by rw [← hy]; exact done_st _ hq4
            have hyR : runs y = false := by rw [← hy, done_f hok]; exact hR
            have hyD : y.st = 3 := by rw [← hy, done_f hok]; exact hD

            have hcon := done_any b q i wr hq hq4
            rw [hok, hy] at hcon
            clear hy hok hR hD hq
            go_wp2_with fail
            refine hcon.mono ?_
            rintro e w3 ⟨rfl, h3, hk3⟩
            clear hcon

            have hrq := runs_any b y w3 h3 hy4
            rw [hyR] at hrq
            obtain ⟨-, -, -, -, c4, -, -, -⟩ := h3.cells
            have d4 : (((y).st : Int) == 3) = true := by simp; omega
            go_wp2_with fail
            refine hrq.mono ?_
            rintro e w4 ⟨rfl, hB4⟩
            have h4 := h3.below hB4
            obtain ⟨-, -, -, -, c4', -, -, -⟩ := h4.cells
            have hK4 : Kept (fun x => x = b) w2 w4 := (hK.trans hk3 (fun _ _ h => h)).trans (Kept.of_below (F := fun _ => False) hB4) (fun _ _ h => h.elim)
            clear hrq c4
            go_wp2_with fail
            go_roundw
            case rel => exact ⟨i + 1, y, false, true, by go_num, by omega, hy4, hyR, by rw [decide_eq_true_iff]; exact hyD, rfl, rfl, h4, hK4⟩
            case measure => simp [intOf]; omega
          · have := (done_t hok).1; rw [hR] at this; cases this
        · cases hok : (kill q i).2
          · obtain ⟨y, hy⟩ : ∃ y, (kill q i).1 = y := ⟨_, rfl⟩
            have hy4 : y.st < 4 := by rw [← hy]; exact kill_st _ hq4
            have hyR : runs y = false := by rw [← hy, (kill_f hok).2]; exact hR
            have hyD : y.st = 3 := by rw [← hy, (kill_f hok).2]; exact hD

            have hcon := kill_any b q i wr hq hq4
            rw [hok, hy] at hcon
            clear hy hok hR hD hq
            go_wp2_with fail
            refine hcon.mono ?_
            rintro e w3 ⟨rfl, h3, hk3⟩
            clear hcon

            have hrq := runs_any b y w3 h3 hy4
            rw [hyR] at hrq
            obtain ⟨-, -, -, -, c4, -, -, -⟩ := h3.cells
            have d4 : (((y).st : Int) == 3) = true := by simp; omega
            go_wp2_with fail
            refine hrq.mono ?_
            rintro e w4 ⟨rfl, hB4⟩
            have h4 := h3.below hB4
            obtain ⟨-, -, -, -, c4', -, -, -⟩ := h4.cells
            have hK4 : Kept (fun x => x = b) w2 w4 := (hK.trans hk3 (fun _ _ h => h)).trans (Kept.of_below (F := fun _ => False) hB4) (fun _ _ h => h.elim)
            clear hrq c4
            go_wp2_with fail
            go_roundw
            case rel => exact ⟨i + 1, y, false, true, by go_num, by omega, hy4, hyR, by rw [decide_eq_true_iff]; exact hyD, rfl, rfl, h4, hK4⟩
            case measure => simp [intOf]; omega
          · exact absurd hD (kill_t hok).1
    · obtain rfl : i = z0.length := by omega
      clear hR hD
      cases R
      all_goals
        go_wp2_with fail
        go_ret
        exact ⟨rfl, hZ.trans (hK.below (by omega) (fun x hx h => by omega))⟩
end Go.Proofs.Ytjehcgmbkhekmaa
