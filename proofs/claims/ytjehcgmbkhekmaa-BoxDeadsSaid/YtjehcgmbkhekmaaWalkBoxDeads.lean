/- What is dead stays as it is, whatever is done: the walk. -/
import Derived.Test.YtjehcgmbkhekmaaSteps
namespace Go.Proofs.Ytjehcgmbkhekmaa
open Go.RowKit Go.Kpt
set_option linter.unusedVariables false
attribute [local go_sem] i64_and3


/-- The variable that the closure holds. -/
def Pv (w : World) (pb b : Nat) : Prop := w.heap[pb]? = some (.cells #[.pointer (some ⟨b, 0, none⟩)] 25 (0, 0))

theorem Pv.kept {F : Nat → Prop} {w w' : World} {pb b : Nat} (h : Pv w pb b) (k : Kept F w w') (hF : ¬ F pb) : Pv w' pb b := (k.block pb (lt_of h) hF).trans h

def step (x : Bx) (s now : Int) : Bx × Bool := if s % 4 = 0 then call x now else if s % 4 = 1 then booted x now else if s % 4 = 2 then done x now else kill x now

theorem step_st {x : Bx} (s now : Int) (h : x.st < 4) : (step x s now).1.st < 4 := by
  unfold step
  split
  · exact call_st _ h
  · split
    · exact booted_st _ h
    · split
      · exact done_st _ h
      · exact kill_st _ h

theorem em4 (n : Int) : n % 4 = 0 ∨ n % 4 = 1 ∨ n % 4 = 2 ∨ n % 4 = 3 := by omega

set_option maxHeartbeats 1000000 in
theorem do_any (pb b : Nat) (x : Bx) (s now : Int) (w : World) (h : Bq w b x) (hs : x.st < 4) (hp : Pv w pb b) :
    Calls Try.prog 15 #[.int .i64 s, .int .i64 now, .pointer (some ⟨pb, 0, none⟩)] w fun e w' => e = .returned (.bool (step x s now).2) ∧ Bq w' b (step x s now).1 ∧ Kept (fun x => x = b) w w' := by
  have c0 : w.cell? ⟨pb, 0, none⟩ = some (.pointer (some ⟨b, 0, none⟩)) := cell_of hp
  rcases em4 s with hm | hm | hm | hm
  · have hcon := call_any b x now w h hs
    have e : step x s now = call x now := by unfold step; simp [hm]
    rw [e]
    clear e
    generalize call x now = r at *
    go_enter Try.func15, Try.ntmps15
    go_wp2_with fail
    refine hcon.mono ?_
    rintro e w' ⟨rfl, h', k'⟩
    go_wp2_with fail
    go_ret
    exact ⟨rfl, h', k'⟩
  · have hcon := booted_any b x now w h hs
    have e : step x s now = booted x now := by unfold step; simp [hm]
    rw [e]
    clear e
    generalize booted x now = r at *
    go_enter Try.func15, Try.ntmps15
    go_wp2_with fail
    refine hcon.mono ?_
    rintro e w' ⟨rfl, h', k'⟩
    go_wp2_with fail
    go_ret
    exact ⟨rfl, h', k'⟩
  · have hcon := done_any b x now w h hs
    have e : step x s now = done x now := by unfold step; simp [hm]
    rw [e]
    clear e
    generalize done x now = r at *
    go_enter Try.func15, Try.ntmps15
    go_wp2_with fail
    refine hcon.mono ?_
    rintro e w' ⟨rfl, h', k'⟩
    go_wp2_with fail
    go_ret
    exact ⟨rfl, h', k'⟩
  · have hcon := kill_any b x now w h hs
    have e : step x s now = kill x now := by unfold step; simp [hm]
    rw [e]
    clear e
    generalize kill x now = r at *
    go_enter Try.func15, Try.ntmps15
    go_wp2_with fail
    refine hcon.mono ?_
    rintro e w' ⟨rfl, h', k'⟩
    go_wp2_with fail
    go_ret
    exact ⟨rfl, h', k'⟩

set_option maxHeartbeats 1000000 in
theorem dead9 (b : Nat) (x : Bx) (now : Int) (w : World) (h : Bq w b x) (hs : x.st = 3) :
    Calls Try.prog 9 #[.pointer (some ⟨b, 0, none⟩), .int .i64 now] w fun e w' => e = .returned (.bool false) ∧ w = w' := by
  obtain ⟨-, -, -, -, c4, c5, -, -⟩ := h.cells
  rw [hs] at c4
  clear hs
  go_enter Try.func9, Try.ntmps9
  go_wp2_with fail
  go_ret
  exact ⟨rfl, rfl⟩

set_option maxHeartbeats 1000000 in
theorem dead10 (b : Nat) (x : Bx) (now : Int) (w : World) (h : Bq w b x) (hs : x.st = 3) :
    Calls Try.prog 10 #[.pointer (some ⟨b, 0, none⟩), .int .i64 now] w fun e w' => e = .returned (.bool false) ∧ w = w' := by
  obtain ⟨-, -, -, -, c4, c5, -, -⟩ := h.cells
  rw [hs] at c4
  clear hs
  go_enter Try.func10, Try.ntmps10
  go_wp2_with fail
  go_ret
  exact ⟨rfl, rfl⟩

set_option maxHeartbeats 1000000 in
theorem dead11 (b : Nat) (x : Bx) (now : Int) (w : World) (h : Bq w b x) (hs : x.st = 3) :
    Calls Try.prog 11 #[.pointer (some ⟨b, 0, none⟩), .int .i64 now] w fun e w' => e = .returned (.bool false) ∧ w = w' := by
  obtain ⟨-, -, -, -, c4, c5, -, -⟩ := h.cells
  rw [hs] at c4
  clear hs
  go_enter Try.func11, Try.ntmps11
  go_wp2_with fail
  go_ret
  exact ⟨rfl, rfl⟩

set_option maxHeartbeats 1000000 in
theorem dead12 (b : Nat) (x : Bx) (now : Int) (w : World) (h : Bq w b x) (hs : x.st = 3) :
    Calls Try.prog 12 #[.pointer (some ⟨b, 0, none⟩), .int .i64 now] w fun e w' => e = .returned (.bool false) ∧ w = w' := by
  obtain ⟨-, -, -, -, c4, c5, -, -⟩ := h.cells
  rw [hs] at c4
  clear hs
  go_enter Try.func12, Try.ntmps12
  go_wp2_with fail
  go_ret
  exact ⟨rfl, rfl⟩

set_option maxHeartbeats 1000000 in
theorem do_dead (pb b : Nat) (x : Bx) (s now : Int) (w : World) (h : Bq w b x) (hs : x.st = 3) (hp : Pv w pb b) :
    Calls Try.prog 15 #[.int .i64 s, .int .i64 now, .pointer (some ⟨pb, 0, none⟩)] w fun e w' => e = .returned (.bool false) ∧ w = w' := by
  have c0 : w.cell? ⟨pb, 0, none⟩ = some (.pointer (some ⟨b, 0, none⟩)) := cell_of hp
  rcases em4 s with hm | hm | hm | hm
  · have hcon := dead9 b x now w h hs
    go_enter Try.func15, Try.ntmps15
    go_wp2_with fail
    refine hcon.mono ?_
    rintro e w' ⟨rfl, rfl⟩
    go_wp2_with fail
    go_ret
    exact ⟨rfl, rfl⟩
  · have hcon := dead10 b x now w h hs
    go_enter Try.func15, Try.ntmps15
    go_wp2_with fail
    refine hcon.mono ?_
    rintro e w' ⟨rfl, rfl⟩
    go_wp2_with fail
    go_ret
    exact ⟨rfl, rfl⟩
  · have hcon := dead11 b x now w h hs
    go_enter Try.func15, Try.ntmps15
    go_wp2_with fail
    refine hcon.mono ?_
    rintro e w' ⟨rfl, rfl⟩
    go_wp2_with fail
    go_ret
    exact ⟨rfl, rfl⟩
  · have hcon := dead12 b x now w h hs
    go_enter Try.func15, Try.ntmps15
    go_wp2_with fail
    refine hcon.mono ?_
    rintro e w' ⟨rfl, rfl⟩
    go_wp2_with fail
    go_ret
    exact ⟨rfl, rfl⟩

theorem step_bd {q : Bx} (n now : Int) (h : q.st = 3 → q.bound = false) : (step q n now).1.st = 3 → (step q n now).1.bound = false := by
  unfold step call booted done kill
  repeat' split
  all_goals (try dsimp only)
  all_goals (first | exact h | (intro _; rfl) | (intro hh; simp at hh; done) | (intro hh; simp_all; done) | (split <;> intro hh <;> simp at hh))

theorem step_id (q : Bx) (n now : Int) : (step q n now).1.id = q.id ∧ (step q n now).1.mem = q.mem := by
  unfold step call booted done kill
  constructor
  · repeat' split
    all_goals (try dsimp only)
    all_goals (first | rfl | (split <;> rfl))
  · repeat' split
    all_goals (try dsimp only)
    all_goals (first | rfl | (split <;> rfl))

set_option maxRecDepth 100000 in
set_option maxHeartbeats 2000000 in
theorem boxDeads_walk (a0 : Option Addr) (cap0 : Nat) (z0 : List Int) (a1 : Option Addr) (cap1 : Nat) (z1 : List Int) (w : World) (w0 : IsInts .i64 w a0 z0) (w1 : IsInts .i64 w a1 z1) :
    Calls Try.prog 5 #[.slice a0 z0.length cap0, .slice a1 z1.length cap1] w fun e w' => e = .returned (.bool true) ∧ Below w.heap.size w w' := by
  go_enter Try.func5, Try.ntmps5
  go_wp2_with fail
  refine (head_any _).mono ?_
  rintro e v1 ⟨rfl, hB1⟩
  by_cases hb1 : 60 < z0.length
  · have g1 : (60 : Int) < (z0.length : Int) := by omega
    go_wp2_with fail
    go_ret
    exact ⟨rfl, hB1⟩
  have g1 : ¬ (60 : Int) < (z0.length : Int) := by omega
  by_cases hb2 : 60 < z1.length
  · have g2 : (60 : Int) < (z1.length : Int) := by omega
    go_wp2_with fail
    go_ret
    exact ⟨rfl, hB1⟩
  have g2 : ¬ (60 : Int) < (z1.length : Int) := by omega
  go_wp2_with fail
  refine (new_any 7 1 2 3 0 _).mono ?_
  rintro e v2 ⟨rfl, h2, hB2, hs2⟩
  have hZ : Below w.heap.size w v2 := hB1.trans (hB2.mono hB1.size)
  have hbase := hB1.size
  obtain ⟨b, hb⟩ : ∃ b, v1.heap.size = b := ⟨_, rfl⟩
  rw [hb] at h2 hbase ⊢
  have hblt := lt_of h2
  clear hB1 hB2 hs2 hb
  obtain ⟨pb, hpb⟩ : ∃ pb, v2.heap.size = pb := ⟨_, rfl⟩
  have hp0 : Pv (v2.alloc (.cells #[.pointer (some ⟨b, 0, none⟩)] 25)) pb b := by rw [← hpb]; exact heap_alloc_new _ _
  have h20 : Bq (v2.alloc (.cells #[.pointer (some ⟨b, 0, none⟩)] 25)) b ⟨7, 1, 2, 3, 0, false, false, 0⟩ := (Below.heap_alloc v2 _ b hblt).trans h2
  have hZ2 : Below w.heap.size w (v2.alloc (.cells #[.pointer (some ⟨b, 0, none⟩)] 25)) := hZ.alloc hZ.size _
  have hbp : b < pb := by omega
  have hsz : (v2.alloc (.cells #[.pointer (some ⟨b, 0, none⟩)] 25)).heap.size = pb + 1 := by simp [hpb]
  go_wp2_with fail
  have hpw : w.heap.size ≤ pb := by omega
  clear h2 hblt hpb hZ
  generalize v2.alloc (.cells #[.pointer (some ⟨b, 0, none⟩)] 25) = v3 at *
  go_loopw [26] (fun x wr => ∃ (i : Nat) (q : Bx), x = .int .i64 i ∧ i ≤ z0.length ∧ q.st < 4 ∧ q.id = 7 ∧ q.mem = 3 ∧ (q.st = 3 → q.bound = false) ∧ Bq wr b q ∧ Kept (fun x => x = b) v3 wr) (fun x _ => z0.length - (intOf x).toNat)
  case atStart => exact ⟨0, _, rfl, by omega, by decide, rfl, rfl, fun h => rfl, h20, Kept.refl _ _⟩
  case round =>
    clear h20
    obtain ⟨i, q, rfl, hi, hq4, hid, hmem, hbd, hq, hK⟩ := hrel
    have hpv := hp0.kept hK (by omega)
    by_cases hlt : i < z0.length
    · obtain ⟨c, off, rfl, hcell⟩ := w0.2.2 i hlt
      have hc := block_lt_of_cell hcell
      have hcell := (hK.cell (p := ⟨c, off + i, none⟩) (show c < _ by simp at hc; omega) (show ¬ c = b by simp at hc; omega)).trans (arg_cell hZ2 hcell)
      obtain ⟨n, hn⟩ : ∃ n, z0.getD i 0 = n := ⟨_, rfl⟩
      rw [hn] at hcell
      have j1 : (i : Int) < (z0.length : Int) := by omega
      have hdo := do_any pb b q n i wr hq hq4 hpv
      have hs' := step_st n i hq4
      have hid' := step_id q n i
      have hbd' := step_bd n i hbd
      generalize step q n i = y at *
      clear hn hc w0
      go_wp2_with fail
      refine hdo.mono ?_
      rintro e w4 ⟨rfl, h4, k4⟩
      go_wp2_with fail
      go_roundw
      case rel => exact ⟨i + 1, y.1, by go_num, by omega, hs', hid'.1.trans hid, hid'.2.trans hmem, hbd', h4, hK.trans k4 (fun _ _ h => h)⟩
      case measure => simp [intOf]; omega
    · obtain rfl : i = z0.length := by omega
      have ck : wr.cell? ⟨pb, 0, none⟩ = some (.pointer (some ⟨b, 0, none⟩)) := cell_of hpv
      go_wp2_with fail
      refine (kill_any b q 100 wr hq hq4).mono ?_
      rintro e w4 ⟨rfl, h4, k4⟩
      obtain ⟨d, hdd⟩ : ∃ d, (kill q 100).1 = d := ⟨_, rfl⟩
      have hd : d.st = 3 ∧ d.bound = false ∧ d.id = 7 ∧ d.mem = 3 := by
        rw [← hdd]
        unfold kill
        by_cases h3 : q.st = 3
        · rw [if_pos h3]; exact ⟨h3, hbd h3, hid, hmem⟩
        · rw [if_neg h3]; exact ⟨rfl, rfl, hid, hmem⟩
      rw [hdd] at h4
      obtain ⟨id, fn, ho, mem, st, bo, pi, si⟩ := d
      obtain ⟨h5, h6, h7, h8⟩ := hd
      simp only at h5 h6 h7 h8
      subst h5 h6 h7 h8
      have hK4 := hK.trans k4 (fun _ _ h => h)
      have hpv4 := hp0.kept hK4 (by omega)
      have ck4 : w4.cell? ⟨pb, 0, none⟩ = some (.pointer (some ⟨b, 0, none⟩)) := cell_of hpv4
      have hZ4 : Below w.heap.size w w4 := hZ2.trans (hK4.below (by omega) (fun x hx h => by omega))
      have hsz4 := hK4.size
      have hcs := h4.cells
      obtain ⟨e0, e1, e2, e3, e4, e5, e6, e7⟩ := hcs
      clear hdd ck hpv k4 hK hq hbd
      go_wp2_with fail
      obtain ⟨D, hD⟩ : ∃ D : Bx, (⟨7, fn, ho, 3, 3, false, pi, si⟩ : Bx) = D := ⟨_, rfl⟩
      have hwb : Bq (w4.alloc (.cells #[.int .i64 7, .int .i64 fn, .int .i64 ho, .int .i64 3, .int .i64 3, .bool false, .bool pi, .int .i64 si] 29)) w4.heap.size ⟨7, fn, ho, 3, 3, false, pi, si⟩ := heap_alloc_new _ _
      have hqb : Bq (w4.alloc (.cells #[.int .i64 7, .int .i64 fn, .int .i64 ho, .int .i64 3, .int .i64 3, .bool false, .bool pi, .int .i64 si] 29)) b ⟨7, fn, ho, 3, 3, false, pi, si⟩ := (Below.heap_alloc w4 _ b (by omega)).trans h4
      have hpb2 : Pv (w4.alloc (.cells #[.int .i64 7, .int .i64 fn, .int .i64 ho, .int .i64 3, .int .i64 3, .bool false, .bool pi, .int .i64 si] 29)) pb b := (Below.heap_alloc w4 _ pb (by omega)).trans hpv4
      have hZ5 : Below w.heap.size w (w4.alloc (.cells #[.int .i64 7, .int .i64 fn, .int .i64 ho, .int .i64 3, .int .i64 3, .bool false, .bool pi, .int .i64 si] 29)) := hZ4.alloc hZ4.size _
      clear h4 hK4 hpv4 ck4 hZ4 e0 e1 e2 e3 e4 e5 e6 e7 hlt hi
      generalize w4.alloc (.cells #[.int .i64 7, .int .i64 fn, .int .i64 ho, .int .i64 3, .int .i64 3, .bool false, .bool pi, .int .i64 si] 29) = v4 at *
      generalize w4.heap.size = wb at *
      generalize (kill q 100).2 = kk at *
      clear hD
      clear D
      go_loopw [43] (fun x wr => ∃ (i : Nat), x = .int .i64 i ∧ i ≤ z1.length ∧ Bq wr b ⟨7, fn, ho, 3, 3, false, pi, si⟩ ∧ Pv wr pb b ∧ Bq wr wb ⟨7, fn, ho, 3, 3, false, pi, si⟩ ∧ Below w.heap.size w wr) (fun x _ => z1.length - (intOf x).toNat)
      case atStart => exact ⟨0, rfl, by omega, hqb, hpb2, hwb, hZ5⟩
      case round =>
        clear hqb hpb2 hwb hZ5
        obtain ⟨i, rfl, hi, hq, hp, hw, hB⟩ := hrel
        obtain ⟨e0, e1, e2, e3, e4, e5, e6, e7⟩ := hq.cells
        have ck : wr.cell? ⟨pb, 0, none⟩ = some (.pointer (some ⟨b, 0, none⟩)) := cell_of hp
        by_cases hlt : i < z1.length
        · obtain ⟨c, off, rfl, hcell⟩ := w1.2.2 i hlt
          have hcell := arg_cell hB hcell
          obtain ⟨n, hn⟩ : ∃ n, z1.getD i 0 = n := ⟨_, rfl⟩
          rw [hn] at hcell
          have j1 : (i : Int) < (z1.length : Int) := by omega
          obtain ⟨l0, l1, l2, l3, l4, l5, l6, l7⟩ := hw.cells
          have hdo : ∀ (now : Int) k, Calls Try.prog 15 #[.int .i64 n, .int .i64 now, .pointer (some ⟨pb, 0, none⟩)] (wr.drewN k) fun e w' => e = .returned (.bool false) ∧ wr.drewN k = w' := fun now k => do_dead pb b ⟨7, fn, ho, 3, 3, false, pi, si⟩ n now (wr.drewN k) hq rfl hp
          clear hn w1
          go_wp2_with fail
          go_quiet ((go_at_call 15; exact Calls.quiet_of_same ((hdo _ _).mono fun e w' ⟨h1, h2⟩ => ⟨h1, h2.symm⟩)))
          go_wp2_with fail
          go_roundw
          case rel => exact ⟨i + 1, by go_num, by omega, hq, hp, hw, below_drewN hB _⟩
          case measure => simp [intOf]; omega
        · obtain rfl : i = z1.length := by omega
          have hr := runs_any b _ wr hq (show (3 : Nat) < 4 by decide)
          rw [show runs ⟨7, fn, ho, 3, 3, false, pi, si⟩ = false from rfl] at hr
          go_wp2_with fail
          refine hr.mono ?_
          rintro e w6 ⟨rfl, hB6⟩
          have hq6 := hq.below hB6
          have hp6 : Pv w6 pb b := (hB6.block pb (lt_of hp)).trans hp
          have hB7 : Below w.heap.size w w6 := hB.trans (hB6.mono hB.size)
          clear e0 e1 e2 e3 e4 e5 e6 e7 ck
          obtain ⟨e0, e1, e2, e3, e4, e5, e6, e7⟩ := hq6.cells
          have ck : w6.cell? ⟨pb, 0, none⟩ = some (.pointer (some ⟨b, 0, none⟩)) := cell_of hp6
          have hi6 := idle_any b _ w6 hq6 (show (3 : Nat) < 4 by decide)
          rw [show idle ⟨7, fn, ho, 3, 3, false, pi, si⟩ = false from rfl] at hi6
          clear hr
          go_wp2_with fail
          refine hi6.mono ?_
          rintro e w7 ⟨rfl, rfl⟩
          go_wp2_with fail
          go_ret
          exact ⟨rfl, hB7⟩
end Go.Proofs.Ytjehcgmbkhekmaa
