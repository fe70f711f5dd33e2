/- Whatever steps: each answer, and all that the sandbox is: the walk. -/
import Derived.Test.YtjehcgmbkhekmaaNext
import Derived.Deep.CutRange
namespace Go.Proofs.Ytjehcgmbkhekmaa
open Go.RowKit Go.Kpt
set_option linter.unusedVariables false
attribute [local go_sem] i64_and3

theorem em4' (n : Int) : n % 4 = 0 ∨ n % 4 = 1 ∨ n % 4 = 2 ∨ n % 4 = 3 := by omega

/-- All that a sandbox is, stored. -/
abbrev setAll (w : World) (b : Nat) (y : Bx) : World := ((((((((w.setCell ⟨b, 0, none⟩ (.int .i64 y.id)).setCell ⟨b, 1, none⟩ (.int .i64 y.fn)).setCell ⟨b, 2, none⟩ (.int .i64 y.host)).setCell ⟨b, 3, none⟩ (.int .i64 y.mem)).setCell ⟨b, 4, none⟩ (.int .i64 y.st)).setCell ⟨b, 5, none⟩ (.bool y.bound)).setCell ⟨b, 6, none⟩ (.bool y.pin)).setCell ⟨b, 7, none⟩ (.int .i64 y.since))
theorem Bq.setId {w : World} {b : Nat} {x : Bx} (h : Bq w b x) (v : Int) : Bq (w.setCell ⟨b, 0, none⟩ (.int .i64 v)) b { x with id := v } := set_same _ h
theorem Bq.setFn {w : World} {b : Nat} {x : Bx} (h : Bq w b x) (v : Int) : Bq (w.setCell ⟨b, 1, none⟩ (.int .i64 v)) b { x with fn := v } := set_same _ h
theorem Bq.setHost {w : World} {b : Nat} {x : Bx} (h : Bq w b x) (v : Int) : Bq (w.setCell ⟨b, 2, none⟩ (.int .i64 v)) b { x with host := v } := set_same _ h
theorem Bq.setMem {w : World} {b : Nat} {x : Bx} (h : Bq w b x) (v : Int) : Bq (w.setCell ⟨b, 3, none⟩ (.int .i64 v)) b { x with mem := v } := set_same _ h
theorem Bq.setAll {w : World} {b : Nat} {x : Bx} (h : Bq w b x) (y : Bx) : Bq (setAll w b y) b y := (((((((h.setId y.id).setFn y.fn).setHost y.host).setMem y.mem).setSt y.st).setBound y.bound).setPin y.pin).setSince y.since
theorem keptAll (w : World) (b : Nat) (y : Bx) : Kept (fun x => x = b) w (setAll w b y) := Kept.setb (Kept.setb (Kept.setb (Kept.setb (Kept.setb (Kept.setb (Kept.setb (Kept.setb (Kept.refl _ _) _ _) _ _) _ _) _ _) _ _) _ _) _ _) _ _
theorem bd_call {x : Bx} {n : Int} (h : x.bound = true → x.st = 0) : (call x n).1.bound = true → (call x n).1.st = 0 := by
  unfold call
  split
  · rename_i h1; intro hh; simp at hh; have := h hh; omega
  · split
    · rename_i h2; intro _; exact h2.1
    · exact h
theorem bd_booted {x : Bx} {n : Int} (h : x.bound = true → x.st = 0) : (booted x n).1.bound = true → (booted x n).1.st = 0 := by
  unfold booted
  split
  · dsimp only
    split
    · intro hh; simp at hh
    · rename_i h2; intro hh; exact absurd hh h2
  · exact h
theorem bd_done {x : Bx} {n : Int} (h : x.bound = true → x.st = 0) : (done x n).1.bound = true → (done x n).1.st = 0 := by
  unfold done
  split
  · rename_i h1; intro hh; simp at hh; have := h hh; omega
  · exact h
theorem bd_kill {x : Bx} {n : Int} (h : x.bound = true → x.st = 0) : (kill x n).1.bound = true → (kill x n).1.st = 0 := by
  unfold kill
  split
  · exact h
  · intro hh; simp at hh

/-- A round's relation. -/
def StepRel (l : Nat) (w : World) (b wb : Nat) (x : Value) (wr : World) : Prop := ∃ (i : Nat) (q : Bx), x = .int .i64 i ∧ i ≤ l ∧ q.st < 4 ∧ (q.bound = true → q.st = 0) ∧ Bq wr b q ∧ Bq wr wb q ∧ Below w.heap.size w wr
theorem StepRel.mk {l : Nat} {w : World} {b wb : Nat} {x : Value} {wr : World} (h : ∃ (i : Nat) (q : Bx), x = .int .i64 i ∧ i ≤ l ∧ q.st < 4 ∧ (q.bound = true → q.st = 0) ∧ Bq wr b q ∧ Bq wr wb q ∧ Below w.heap.size w wr) : StepRel l w b wb x wr := h

set_option maxRecDepth 100000 in
set_option maxHeartbeats 40000000 in
theorem boxSteps_walk (id fn ho mem : Int) (a4 : Option Addr) (cap4 : Nat) (z4 : List Int) (a5 : Option Addr) (cap5 : Nat) (z5 : List Bool) (w : World) (w4 : IsInts .i64 w a4 z4) (w5 : IsBools w a5 z5) :
    Calls Try.prog 3 #[.int .i64 id, .int .i64 fn, .int .i64 ho, .int .i64 mem, .slice a4 z4.length cap4, .slice a5 z5.length cap5] w fun e w' => e = .returned (.bool true) ∧ Below w.heap.size w w' := by
  go_enter Try.func3, Try.ntmps3
  go_wp2_with fail
  refine (head_any _).mono ?_
  rintro e v1 ⟨rfl, hB1⟩
  by_cases hb1 : 100 < z4.length
  · have g1 : (100 : Int) < (z4.length : Int) := by omega
    go_wp2_with fail
    go_ret
    exact ⟨rfl, hB1⟩
  have g1 : ¬ (100 : Int) < (z4.length : Int) := by omega
  by_cases hb2 : 100 < z5.length
  · have g2 : (100 : Int) < (z5.length : Int) := by omega
    go_wp2_with fail
    go_ret
    exact ⟨rfl, hB1⟩
  have g2 : ¬ (100 : Int) < (z5.length : Int) := by omega
  go_wp2_with fail
  refine (new_any id fn ho mem (-3) _).mono ?_
  rintro e v2 ⟨rfl, h2, hB2, hs2⟩
  have hZ : Below w.heap.size w v2 := hB1.trans (hB2.mono hB1.size)
  have hbase := hB1.size
  obtain ⟨b, hb⟩ : ∃ b, v1.heap.size = b := ⟨_, rfl⟩
  rw [hb] at h2 hbase ⊢
  have hblt := lt_of h2
  clear hB1 hB2 hs2 hb
  obtain ⟨wb, hwb⟩ : ∃ wb, v2.heap.size = wb := ⟨_, rfl⟩
  have hq0 : Bq (v2.alloc (.cells #[.int .i64 id, .int .i64 fn, .int .i64 ho, .int .i64 mem, .int .i64 0, .bool false, .bool false, .int .i64 (-3)] 29)) b ⟨id, fn, ho, mem, 0, false, false, -3⟩ := (Below.heap_alloc v2 _ b hblt).trans h2
  have hp0 : Bq (v2.alloc (.cells #[.int .i64 id, .int .i64 fn, .int .i64 ho, .int .i64 mem, .int .i64 0, .bool false, .bool false, .int .i64 (-3)] 29)) wb ⟨id, fn, ho, mem, 0, false, false, -3⟩ := by rw [← hwb]; exact heap_alloc_new _ _
  have hZ2 : Below w.heap.size w (v2.alloc (.cells #[.int .i64 id, .int .i64 fn, .int .i64 ho, .int .i64 mem, .int .i64 0, .bool false, .bool false, .int .i64 (-3)] 29)) := hZ.alloc hZ.size _
  obtain ⟨e0, e1, e2, e3, e4, e5, e6, e7⟩ := hq0.cells
  obtain ⟨l0, l1, l2, l3, l4, l5, l6, l7⟩ := hp0.cells
  have hbw : b < wb := by omega
  go_wp2_with fail
  go_quiet (fail)
  go_wp2_with fail
  clear e0 e1 e2 e3 e4 e5 e6 e7 l0 l1 l2 l3 l4 l5 l6 l7 h2 hZ hblt
  have hq1 := Bq.below hq0 (below_drewN (Below.refl _ _) nq)
  have hp1 := Bq.below hp0 (below_drewN (Below.refl _ _) nq)
  have hZ1 := below_drewN hZ2 nq
  have hpw : w.heap.size ≤ wb := by omega
  clear hq0 hp0 hZ2 hwb
  generalize (v2.alloc (.cells #[.int .i64 id, .int .i64 fn, .int .i64 ho, .int .i64 mem, .int .i64 0, .bool false, .bool false, .int .i64 (-3)] 29)).drewN nq = v3 at *
  go_loopw [52] (fun x wr => StepRel z4.length w b wb x wr) (fun x _ => z4.length - (intOf x).toNat)
  case atStart => exact StepRel.mk ⟨0, _, rfl, by omega, show (0 : Nat) < 4 by decide, fun h => rfl, hq1, hp1, hZ1⟩
  case round =>
    clear hq1 hp1 hZ1
    obtain ⟨i, q, rfl, hi, hq4, hqb, hq, hp, hB⟩ := hrel
    by_cases hlt : i < z4.length
    · obtain ⟨c, off, rfl, hcell⟩ := w4.2.2 i hlt
      have hcell := arg_cell hB hcell
      obtain ⟨n, hn⟩ : ∃ n, z4.getD i 0 = n := ⟨_, rfl⟩
      rw [hn] at hcell
      have j1 : (i : Int) < (z4.length : Int) := by omega
      obtain ⟨id', fn', ho', mem', st', bo', pi', si'⟩ := q
      clear hn
      obtain ⟨v, hv⟩ : ∃ v, (decide (i < z5.length) && !decide (st' = 3)) = v := ⟨_, rfl⟩
      go_upto_region 13 with fail
      go_cut [52, 66] from 52 to 144 (fun x y wx => x = .int .i64 i ∧ y = .bool v ∧ wr = wx)
      case first =>
        obtain ⟨e0, e1, e2, e3, e4, e5, e6, e7⟩ := hq.cells
        obtain ⟨l0, l1, l2, l3, l4, l5, l6, l7⟩ := hp.cells
        by_cases hpin : i < z5.length
        · have j2 : (i : Int) < (z5.length : Int) := by omega
          by_cases hs3 : st' = 3
          · have j3 : ((st' : Int) == 3) = true := by simp; omega
            have hv' : v = false := by rw [← hv]; simp [hs3]
            clear hs3 hv
            subst hv'
            go_wp2_with fail
            go_meet
            case rel => exact ⟨rfl, congrArg Value.bool (by simp only [bne, j3]; rfl), rfl⟩
          · have j3 : ((st' : Int) == 3) = false := by simp; omega
            have hv' : v = true := by rw [← hv]; simp [hs3, hpin]
            clear hs3 hv
            subst hv'
            go_wp2_with fail
            go_meet
            case rel => exact ⟨rfl, congrArg Value.bool (by simp only [bne, j3]; rfl), rfl⟩
        · have j2 : ¬ (i : Int) < (z5.length : Int) := by omega
          have hv' : v = false := by rw [← hv]; simp [hpin]
          clear hv
          subst hv'
          go_wp2_with fail
          go_meet
          case rel => exact ⟨rfl, rfl, rfl⟩
      case rest =>
      obtain ⟨rfl, rfl, rfl⟩ := hcut
      go_upto_if 66 with fail
      go_cut [52] from 52 to 144 (fun x wx => x = .int .i64 i ∧ ∃ p, Bq wx b ⟨id', fn', ho', mem', st', bo', p, si'⟩ ∧ Bq wx wb ⟨id', fn', ho', mem', st', bo', p, si'⟩ ∧ Below w.heap.size w wx)
      case first =>
        obtain ⟨e0, e1, e2, e3, e4, e5, e6, e7⟩ := hq.cells
        obtain ⟨l0, l1, l2, l3, l4, l5, l6, l7⟩ := hp.cells
        cases v
        · go_wp2_with fail
          go_meet
          case rel => exact ⟨rfl, pi', hq, hp, hB⟩
        · have hpin : i < z5.length := by simp at hv; exact hv.1
          obtain ⟨c5, off5, rfl, hcell5⟩ := w5.2 i hpin
          have hcell6 := arg_cell hB hcell5
          obtain ⟨p, hp5⟩ : ∃ p, z5.getD i false = p := ⟨_, rfl⟩
          rw [hp5] at hcell5 hcell6
          have j2 : (i : Int) < (z5.length : Int) := by omega
          have hqx : Bq ((wr.setCell ⟨b, 6, none⟩ (.bool p)).setCell ⟨wb, 6, none⟩ (.bool p)) b ⟨id', fn', ho', mem', st', bo', p, si'⟩ := (hq.setPin p).kept (F := fun x => x = wb) (Kept.setb (Kept.refl _ _) _ _) (by omega)
          have hpx : Bq ((wr.setCell ⟨b, 6, none⟩ (.bool p)).setCell ⟨wb, 6, none⟩ (.bool p)) wb ⟨id', fn', ho', mem', st', bo', p, si'⟩ := Bq.setPin (Bq.kept (F := fun x => x = b) hp (Kept.setb (Kept.refl _ _) _ _) (by omega)) p
          have hp1 : Bq (wr.setCell ⟨b, 6, none⟩ (.bool p)) wb ⟨id', fn', ho', mem', st', bo', pi', si'⟩ := Bq.kept (F := fun x => x = b) hp (Kept.setb (Kept.refl _ _) _ _) (by omega)
          have hB1 : Below w.heap.size w (wr.setCell ⟨b, 6, none⟩ (.bool p)) := hB.trans ((Kept.setb (b := b) (Kept.refl (fun x => x = b) wr) 6 (.bool p)).below hB.size (fun x hx h => by omega))
          have hBx : Below w.heap.size w ((wr.setCell ⟨b, 6, none⟩ (.bool p)).setCell ⟨wb, 6, none⟩ (.bool p)) := hB1.trans ((Kept.setb (b := wb) (Kept.refl (fun x => x = wb) (wr.setCell ⟨b, 6, none⟩ (.bool p))) 6 (.bool p)).below hB1.size (fun x hx h => by omega))
          have hcell7 := arg_cell hB1 hcell5
          obtain ⟨-, -, -, -, -, -, k6, -⟩ := hp1.cells
          have fq6 := hq.frozen 6
          have fp6 := hp.frozen 6
          have fp6' := hp1.frozen 6
          clear hcell5 hp5 hv
          go_wp2_with fail
          go_meet
          case rel => exact ⟨rfl, p, hqx, hpx, hBx⟩
      case rest =>
        obtain ⟨rfl, p, hqc, hpc, hBc⟩ := hcut
        clear hq hp hB hcell
        rename Bq wc b _ => hq
        rename Bq wc wb _ => hp
        rename Below w.heap.size w wc => hB
        obtain ⟨e0, e1, e2, e3, e4, e5, e6, e7⟩ := hq.cells
        obtain ⟨l0, l1, l2, l3, l4, l5, l6, l7⟩ := hp.cells
        rcases em4' n with hm | hm | hm | hm
        · obtain ⟨y, hy⟩ : ∃ y, call ⟨id', fn', ho', mem', st', bo', p, si'⟩ i = y := ⟨_, rfl⟩
          have hnx := next_0 ⟨id', fn', ho', mem', st', bo', p, si'⟩ i wc hq4
          have hco := fun W (h : Bq W b ⟨id', fn', ho', mem', st', bo', p, si'⟩) => call_any b ⟨id', fn', ho', mem', st', bo', p, si'⟩ i W h hq4
          have hy4 := call_st (x := ⟨id', fn', ho', mem', st', bo', p, si'⟩) i hq4
          have hyb := bd_call (x := ⟨id', fn', ho', mem', st', bo', p, si'⟩) (n := i) hqb
          rw [hy] at hnx hy4 hyb
          obtain ⟨⟨id2, fn2, ho2, mem2, st2, bo2, pi2, si2⟩, ok⟩ := y
          simp only [bc] at hnx
          simp only at hy4 hyb
          go_wp2_with fail
          refine hnx.mono ?_
          rintro e v5 ⟨rfl, hB5⟩
          have hq5 := hq.below hB5
          have hp5 := hp.below hB5
          have hq6 : Bq (v5.alloc (.cells #[.int .i64 id2, .int .i64 fn2, .int .i64 ho2, .int .i64 mem2, .int .i64 st2, .bool bo2, .bool pi2, .int .i64 si2] 29)) b ⟨id', fn', ho', mem', st', bo', p, si'⟩ := (Below.heap_alloc v5 _ b (lt_of hq5)).trans hq5
          have hco := hco _ hq6
          rw [hy] at hco
          clear hnx e0 e1 e2 e3 e4 e5 e6 e7
          go_wp2_with fail
          refine hco.mono ?_
          rintro e v6 ⟨rfl, hq7, hk7⟩
          have hsz7 := hk7.size
          have hlt5 := lt_of hq5
          have hlt5' := lt_of hp5
          have hnx7 : Bq v6 v5.heap.size ⟨id2, fn2, ho2, mem2, st2, bo2, pi2, si2⟩ := Bq.kept (w := v5.alloc (.cells #[.int .i64 id2, .int .i64 fn2, .int .i64 ho2, .int .i64 mem2, .int .i64 st2, .bool bo2, .bool pi2, .int .i64 si2] 29)) (heap_alloc_new _ _) hk7 (by omega)
          have hp7 : Bq v6 wb ⟨id', fn', ho', mem', st', bo', p, si'⟩ := Bq.kept (w := v5.alloc (.cells #[.int .i64 id2, .int .i64 fn2, .int .i64 ho2, .int .i64 mem2, .int .i64 st2, .bool bo2, .bool pi2, .int .i64 si2] 29)) ((Below.heap_alloc v5 _ wb (lt_of hp5)).trans hp5) hk7 (by omega)
          have hB7 : Below w.heap.size w v6 := ((hB.trans (hB5.mono hB.size)).alloc (Nat.le_trans hB.size hB5.size) _).trans (hk7.below (by simp; have := hB.size; have := hB5.size; omega) (fun x hx h => by omega))
          obtain ⟨e0, e1, e2, e3, e4, e5, e6, e7⟩ := hnx7.cells
          have ff := hp7.frozen
          have f0 := ff 0
          have f1 := ff 1
          have f2 := ff 2
          have f3 := ff 3
          have f4 := ff 4
          have f5 := ff 5
          have f6 := ff 6
          have f7 := ff 7
          clear ff l0 l1 l2 l3 l4 l5 l6 l7 hco hy hq5 hp5 hq6
          clear hco
          obtain ⟨l0, l1, l2, l3, l4, l5, l6, l7⟩ := hp7.cells
          have hpZ : Bq (setAll v6 wb ⟨id2, fn2, ho2, mem2, st2, bo2, pi2, si2⟩) wb ⟨id2, fn2, ho2, mem2, st2, bo2, pi2, si2⟩ := hp7.setAll ⟨id2, fn2, ho2, mem2, st2, bo2, pi2, si2⟩
          have hqZ : Bq (setAll v6 wb ⟨id2, fn2, ho2, mem2, st2, bo2, pi2, si2⟩) b ⟨id2, fn2, ho2, mem2, st2, bo2, pi2, si2⟩ := hq7.kept (keptAll v6 wb ⟨id2, fn2, ho2, mem2, st2, bo2, pi2, si2⟩) (by omega)
          have hBZ : Below w.heap.size w (setAll v6 wb ⟨id2, fn2, ho2, mem2, st2, bo2, pi2, si2⟩) := hB7.trans ((keptAll v6 wb ⟨id2, fn2, ho2, mem2, st2, bo2, pi2, si2⟩).below hB7.size (fun x hx h => by omega))
          dsimp only [setAll] at hpZ hqZ hBZ
          go_wp2_with fail
          obtain ⟨v7, hv7⟩ : ∃ v7, ((((((((v6.setCell ⟨wb, 0, none⟩ (.int .i64 id2)).setCell ⟨wb, 1, none⟩ (.int .i64 fn2)).setCell ⟨wb, 2, none⟩ (.int .i64 ho2)).setCell ⟨wb, 3, none⟩ (.int .i64 mem2)).setCell ⟨wb, 4, none⟩ (.int .i64 st2)).setCell ⟨wb, 5, none⟩ (.bool bo2)).setCell ⟨wb, 6, none⟩ (.bool pi2)).setCell ⟨wb, 7, none⟩ (.int .i64 si2)) = v7 := ⟨_, rfl⟩
          rw [hv7] at hpZ hqZ hBZ ⊢
          clear hv7
          clear e0 e1 e2 e3 e4 e5 e6 e7 l0 l1 l2 l3 l4 l5 l6 l7 f0 f1 f2 f3 f4 f5 f6 f7 hnx7 hp7 hq7
          obtain ⟨e0, e1, e2, e3, e4, e5, e6, e7⟩ := hqZ.cells
          obtain ⟨l0, l1, l2, l3, l4, l5, l6, l7⟩ := hpZ.cells
          have hc3 : (st2 = 2 ∧ bo2 = false) ∨ (st2 = 0 ∧ bo2 = true) ∨ (((st2 : Int) == 2) = false ∧ bo2 = false) := by
            cases bo2
            · by_cases h2 : st2 = 2
              · exact .inl ⟨h2, rfl⟩
              · exact .inr (.inr ⟨by simp; omega, rfl⟩)
            · exact .inr (.inl ⟨hyb rfl, rfl⟩)
          rcases hc3 with ⟨rfl, rfl⟩ | ⟨rfl, rfl⟩ | ⟨hs2, rfl⟩
          · have er : runs ⟨id2, fn2, ho2, mem2, 2, false, pi2, si2⟩ = true := rfl
            have ei : idle ⟨id2, fn2, ho2, mem2, 2, false, pi2, si2⟩ = false := rfl
            go_wp2_with fail
            go_quiet (fail)
            have hq8 : Bq (v7.drewN nq) b ⟨id2, fn2, ho2, mem2, 2, false, pi2, si2⟩ := hqZ
            have hp8 : Bq (v7.drewN nq) wb ⟨id2, fn2, ho2, mem2, 2, false, pi2, si2⟩ := hpZ
            have hB8 : Below w.heap.size w (v7.drewN nq) := below_drewN hBZ _
            clear e0 e1 e2 e3 e4 e5 e6 e7 l0 l1 l2 l3 l4 l5 l6 l7 hqZ hpZ hBZ
            generalize v7.drewN nq = v8 at *
            obtain ⟨l0, l1, l2, l3, l4, l5, l6, l7⟩ := hp8.cells
            have hru : ∀ n, Calls Try.prog 13 #[.pointer (some ⟨b, 0, none⟩)] (v8.drewN n) fun e w' => e = .returned (.bool true) ∧ ∃ m, w' = (v8.drewN n).drewN m := fun n => by have h := runs_quiet b ⟨id2, fn2, ho2, mem2, 2, false, pi2, si2⟩ (v8.drewN n) hq8 hy4; rw [er] at h; exact h
            have hid : ∀ n, Calls Try.prog 14 #[.pointer (some ⟨b, 0, none⟩)] (v8.drewN n) fun e w' => e = .returned (.bool false) ∧ v8.drewN n = w' := fun n => by have h := idle_any b ⟨id2, fn2, ho2, mem2, 2, false, pi2, si2⟩ (v8.drewN n) hq8 hy4; rw [ei] at h; exact h
            clear er ei
            go_wp2_with fail
            go_quiet (first | (go_at_call 13; exact Calls.quiet_of ((hru _).mono fun e w' ⟨h1, m, h2⟩ => ⟨h1, m, h2⟩)) | (go_at_call 14; exact Calls.quiet_of_same ((hid _).mono fun e w' ⟨h1, h2⟩ => ⟨h1, h2.symm⟩)))
            go_wp2_with fail
            go_roundw
            case rel => exact StepRel.mk ⟨i + 1, ⟨id2, fn2, ho2, mem2, 2, false, pi2, si2⟩, by go_num, by omega, hy4, (fun h => by first | rfl | cases h), hq8, hp8, below_drewN hB8 _⟩
            case measure => simp [intOf]; omega
          · have er : runs ⟨id2, fn2, ho2, mem2, 0, true, pi2, si2⟩ = true := rfl
            have ei : idle ⟨id2, fn2, ho2, mem2, 0, true, pi2, si2⟩ = false := rfl
            go_wp2_with fail
            go_quiet (fail)
            have hq8 : Bq (v7.drewN nq) b ⟨id2, fn2, ho2, mem2, 0, true, pi2, si2⟩ := hqZ
            have hp8 : Bq (v7.drewN nq) wb ⟨id2, fn2, ho2, mem2, 0, true, pi2, si2⟩ := hpZ
            have hB8 : Below w.heap.size w (v7.drewN nq) := below_drewN hBZ _
            clear e0 e1 e2 e3 e4 e5 e6 e7 l0 l1 l2 l3 l4 l5 l6 l7 hqZ hpZ hBZ
            generalize v7.drewN nq = v8 at *
            obtain ⟨l0, l1, l2, l3, l4, l5, l6, l7⟩ := hp8.cells
            have hru : ∀ n, Calls Try.prog 13 #[.pointer (some ⟨b, 0, none⟩)] (v8.drewN n) fun e w' => e = .returned (.bool true) ∧ ∃ m, w' = (v8.drewN n).drewN m := fun n => by have h := runs_quiet b ⟨id2, fn2, ho2, mem2, 0, true, pi2, si2⟩ (v8.drewN n) hq8 hy4; rw [er] at h; exact h
            have hid : ∀ n, Calls Try.prog 14 #[.pointer (some ⟨b, 0, none⟩)] (v8.drewN n) fun e w' => e = .returned (.bool false) ∧ v8.drewN n = w' := fun n => by have h := idle_any b ⟨id2, fn2, ho2, mem2, 0, true, pi2, si2⟩ (v8.drewN n) hq8 hy4; rw [ei] at h; exact h
            clear er ei
            go_wp2_with fail
            go_quiet (first | (go_at_call 13; exact Calls.quiet_of ((hru _).mono fun e w' ⟨h1, m, h2⟩ => ⟨h1, m, h2⟩)) | (go_at_call 14; exact Calls.quiet_of_same ((hid _).mono fun e w' ⟨h1, h2⟩ => ⟨h1, h2.symm⟩)))
            go_wp2_with fail
            go_roundw
            case rel => exact StepRel.mk ⟨i + 1, ⟨id2, fn2, ho2, mem2, 0, true, pi2, si2⟩, by go_num, by omega, hy4, (fun h => by first | rfl | cases h), hq8, hp8, below_drewN hB8 _⟩
            case measure => simp [intOf]; omega
          · have er : runs ⟨id2, fn2, ho2, mem2, st2, false, pi2, si2⟩ = false := by
              have : ¬ st2 = 2 := fun h => by subst h; simp at hs2
              simp [runs, this]
            obtain ⟨s1, h1, ei⟩ : ∃ s1, ((st2 : Int) == 1) = s1 ∧ idle ⟨id2, fn2, ho2, mem2, st2, false, pi2, si2⟩ = s1 := by
              refine ⟨_, rfl, ?_⟩
              show (st2 == 1) = ((st2 : Int) == 1)
              by_cases h : st2 = 1
              · subst h; rfl
              · have a : (st2 == 1) = false := by simp; exact h
                have b : ((st2 : Int) == 1) = false := by simp; omega
                rw [a, b]
            go_wp2_with fail
            go_quiet (fail)
            have hq8 : Bq (v7.drewN nq) b ⟨id2, fn2, ho2, mem2, st2, false, pi2, si2⟩ := hqZ
            have hp8 : Bq (v7.drewN nq) wb ⟨id2, fn2, ho2, mem2, st2, false, pi2, si2⟩ := hpZ
            have hB8 : Below w.heap.size w (v7.drewN nq) := below_drewN hBZ _
            clear e0 e1 e2 e3 e4 e5 e6 e7 l0 l1 l2 l3 l4 l5 l6 l7 hqZ hpZ hBZ
            generalize v7.drewN nq = v8 at *
            obtain ⟨l0, l1, l2, l3, l4, l5, l6, l7⟩ := hp8.cells
            have hru : ∀ n, Calls Try.prog 13 #[.pointer (some ⟨b, 0, none⟩)] (v8.drewN n) fun e w' => e = .returned (.bool false) ∧ ∃ m, w' = (v8.drewN n).drewN m := fun n => by have h := runs_quiet b ⟨id2, fn2, ho2, mem2, st2, false, pi2, si2⟩ (v8.drewN n) hq8 hy4; rw [er] at h; exact h
            have hid : ∀ n, Calls Try.prog 14 #[.pointer (some ⟨b, 0, none⟩)] (v8.drewN n) fun e w' => e = .returned (.bool s1) ∧ v8.drewN n = w' := fun n => by have h := idle_any b ⟨id2, fn2, ho2, mem2, st2, false, pi2, si2⟩ (v8.drewN n) hq8 hy4; rw [ei] at h; exact h
            clear er ei
            go_wp2_with fail
            go_quiet (first | (go_at_call 13; exact Calls.quiet_of ((hru _).mono fun e w' ⟨h1, m, h2⟩ => ⟨h1, m, h2⟩)) | (go_at_call 14; exact Calls.quiet_of_same ((hid _).mono fun e w' ⟨h1, h2⟩ => ⟨h1, h2.symm⟩)))
            go_wp2_with fail
            go_roundw
            case rel => exact StepRel.mk ⟨i + 1, ⟨id2, fn2, ho2, mem2, st2, false, pi2, si2⟩, by go_num, by omega, hy4, (fun h => by first | rfl | cases h), hq8, hp8, below_drewN hB8 _⟩
            case measure => simp [intOf]; omega
        · obtain ⟨y, hy⟩ : ∃ y, booted ⟨id', fn', ho', mem', st', bo', p, si'⟩ i = y := ⟨_, rfl⟩
          have hnx := next_1 ⟨id', fn', ho', mem', st', bo', p, si'⟩ i wc hq4
          have hco := fun W (h : Bq W b ⟨id', fn', ho', mem', st', bo', p, si'⟩) => booted_any b ⟨id', fn', ho', mem', st', bo', p, si'⟩ i W h hq4
          have hy4 := booted_st (x := ⟨id', fn', ho', mem', st', bo', p, si'⟩) i hq4
          have hyb := bd_booted (x := ⟨id', fn', ho', mem', st', bo', p, si'⟩) (n := i) hqb
          rw [hy] at hnx hy4 hyb
          obtain ⟨⟨id2, fn2, ho2, mem2, st2, bo2, pi2, si2⟩, ok⟩ := y
          simp only [bc] at hnx
          simp only at hy4 hyb
          go_wp2_with fail
          refine hnx.mono ?_
          rintro e v5 ⟨rfl, hB5⟩
          have hq5 := hq.below hB5
          have hp5 := hp.below hB5
          have hq6 : Bq (v5.alloc (.cells #[.int .i64 id2, .int .i64 fn2, .int .i64 ho2, .int .i64 mem2, .int .i64 st2, .bool bo2, .bool pi2, .int .i64 si2] 29)) b ⟨id', fn', ho', mem', st', bo', p, si'⟩ := (Below.heap_alloc v5 _ b (lt_of hq5)).trans hq5
          have hco := hco _ hq6
          rw [hy] at hco
          clear hnx e0 e1 e2 e3 e4 e5 e6 e7
          go_wp2_with fail
          refine hco.mono ?_
          rintro e v6 ⟨rfl, hq7, hk7⟩
          have hsz7 := hk7.size
          have hlt5 := lt_of hq5
          have hlt5' := lt_of hp5
          have hnx7 : Bq v6 v5.heap.size ⟨id2, fn2, ho2, mem2, st2, bo2, pi2, si2⟩ := Bq.kept (w := v5.alloc (.cells #[.int .i64 id2, .int .i64 fn2, .int .i64 ho2, .int .i64 mem2, .int .i64 st2, .bool bo2, .bool pi2, .int .i64 si2] 29)) (heap_alloc_new _ _) hk7 (by omega)
          have hp7 : Bq v6 wb ⟨id', fn', ho', mem', st', bo', p, si'⟩ := Bq.kept (w := v5.alloc (.cells #[.int .i64 id2, .int .i64 fn2, .int .i64 ho2, .int .i64 mem2, .int .i64 st2, .bool bo2, .bool pi2, .int .i64 si2] 29)) ((Below.heap_alloc v5 _ wb (lt_of hp5)).trans hp5) hk7 (by omega)
          have hB7 : Below w.heap.size w v6 := ((hB.trans (hB5.mono hB.size)).alloc (Nat.le_trans hB.size hB5.size) _).trans (hk7.below (by simp; have := hB.size; have := hB5.size; omega) (fun x hx h => by omega))
          obtain ⟨e0, e1, e2, e3, e4, e5, e6, e7⟩ := hnx7.cells
          have ff := hp7.frozen
          have f0 := ff 0
          have f1 := ff 1
          have f2 := ff 2
          have f3 := ff 3
          have f4 := ff 4
          have f5 := ff 5
          have f6 := ff 6
          have f7 := ff 7
          clear ff l0 l1 l2 l3 l4 l5 l6 l7 hco hy hq5 hp5 hq6
          clear hco
          obtain ⟨l0, l1, l2, l3, l4, l5, l6, l7⟩ := hp7.cells
          have hpZ : Bq (setAll v6 wb ⟨id2, fn2, ho2, mem2, st2, bo2, pi2, si2⟩) wb ⟨id2, fn2, ho2, mem2, st2, bo2, pi2, si2⟩ := hp7.setAll ⟨id2, fn2, ho2, mem2, st2, bo2, pi2, si2⟩
          have hqZ : Bq (setAll v6 wb ⟨id2, fn2, ho2, mem2, st2, bo2, pi2, si2⟩) b ⟨id2, fn2, ho2, mem2, st2, bo2, pi2, si2⟩ := hq7.kept (keptAll v6 wb ⟨id2, fn2, ho2, mem2, st2, bo2, pi2, si2⟩) (by omega)
          have hBZ : Below w.heap.size w (setAll v6 wb ⟨id2, fn2, ho2, mem2, st2, bo2, pi2, si2⟩) := hB7.trans ((keptAll v6 wb ⟨id2, fn2, ho2, mem2, st2, bo2, pi2, si2⟩).below hB7.size (fun x hx h => by omega))
          dsimp only [setAll] at hpZ hqZ hBZ
          go_wp2_with fail
          obtain ⟨v7, hv7⟩ : ∃ v7, ((((((((v6.setCell ⟨wb, 0, none⟩ (.int .i64 id2)).setCell ⟨wb, 1, none⟩ (.int .i64 fn2)).setCell ⟨wb, 2, none⟩ (.int .i64 ho2)).setCell ⟨wb, 3, none⟩ (.int .i64 mem2)).setCell ⟨wb, 4, none⟩ (.int .i64 st2)).setCell ⟨wb, 5, none⟩ (.bool bo2)).setCell ⟨wb, 6, none⟩ (.bool pi2)).setCell ⟨wb, 7, none⟩ (.int .i64 si2)) = v7 := ⟨_, rfl⟩
          rw [hv7] at hpZ hqZ hBZ ⊢
          clear hv7
          clear e0 e1 e2 e3 e4 e5 e6 e7 l0 l1 l2 l3 l4 l5 l6 l7 f0 f1 f2 f3 f4 f5 f6 f7 hnx7 hp7 hq7
          obtain ⟨e0, e1, e2, e3, e4, e5, e6, e7⟩ := hqZ.cells
          obtain ⟨l0, l1, l2, l3, l4, l5, l6, l7⟩ := hpZ.cells
          have hc3 : (st2 = 2 ∧ bo2 = false) ∨ (st2 = 0 ∧ bo2 = true) ∨ (((st2 : Int) == 2) = false ∧ bo2 = false) := by
            cases bo2
            · by_cases h2 : st2 = 2
              · exact .inl ⟨h2, rfl⟩
              · exact .inr (.inr ⟨by simp; omega, rfl⟩)
            · exact .inr (.inl ⟨hyb rfl, rfl⟩)
          rcases hc3 with ⟨rfl, rfl⟩ | ⟨rfl, rfl⟩ | ⟨hs2, rfl⟩
          · have er : runs ⟨id2, fn2, ho2, mem2, 2, false, pi2, si2⟩ = true := rfl
            have ei : idle ⟨id2, fn2, ho2, mem2, 2, false, pi2, si2⟩ = false := rfl
            go_wp2_with fail
            go_quiet (fail)
            have hq8 : Bq (v7.drewN nq) b ⟨id2, fn2, ho2, mem2, 2, false, pi2, si2⟩ := hqZ
            have hp8 : Bq (v7.drewN nq) wb ⟨id2, fn2, ho2, mem2, 2, false, pi2, si2⟩ := hpZ
            have hB8 : Below w.heap.size w (v7.drewN nq) := below_drewN hBZ _
            clear e0 e1 e2 e3 e4 e5 e6 e7 l0 l1 l2 l3 l4 l5 l6 l7 hqZ hpZ hBZ
            generalize v7.drewN nq = v8 at *
            obtain ⟨l0, l1, l2, l3, l4, l5, l6, l7⟩ := hp8.cells
            have hru : ∀ n, Calls Try.prog 13 #[.pointer (some ⟨b, 0, none⟩)] (v8.drewN n) fun e w' => e = .returned (.bool true) ∧ ∃ m, w' = (v8.drewN n).drewN m := fun n => by have h := runs_quiet b ⟨id2, fn2, ho2, mem2, 2, false, pi2, si2⟩ (v8.drewN n) hq8 hy4; rw [er] at h; exact h
            have hid : ∀ n, Calls Try.prog 14 #[.pointer (some ⟨b, 0, none⟩)] (v8.drewN n) fun e w' => e = .returned (.bool false) ∧ v8.drewN n = w' := fun n => by have h := idle_any b ⟨id2, fn2, ho2, mem2, 2, false, pi2, si2⟩ (v8.drewN n) hq8 hy4; rw [ei] at h; exact h
            clear er ei
            go_wp2_with fail
            go_quiet (first | (go_at_call 13; exact Calls.quiet_of ((hru _).mono fun e w' ⟨h1, m, h2⟩ => ⟨h1, m, h2⟩)) | (go_at_call 14; exact Calls.quiet_of_same ((hid _).mono fun e w' ⟨h1, h2⟩ => ⟨h1, h2.symm⟩)))
            go_wp2_with fail
            go_roundw
            case rel => exact StepRel.mk ⟨i + 1, ⟨id2, fn2, ho2, mem2, 2, false, pi2, si2⟩, by go_num, by omega, hy4, (fun h => by first | rfl | cases h), hq8, hp8, below_drewN hB8 _⟩
            case measure => simp [intOf]; omega
          · have er : runs ⟨id2, fn2, ho2, mem2, 0, true, pi2, si2⟩ = true := rfl
            have ei : idle ⟨id2, fn2, ho2, mem2, 0, true, pi2, si2⟩ = false := rfl
            go_wp2_with fail
            go_quiet (fail)
            have hq8 : Bq (v7.drewN nq) b ⟨id2, fn2, ho2, mem2, 0, true, pi2, si2⟩ := hqZ
            have hp8 : Bq (v7.drewN nq) wb ⟨id2, fn2, ho2, mem2, 0, true, pi2, si2⟩ := hpZ
            have hB8 : Below w.heap.size w (v7.drewN nq) := below_drewN hBZ _
            clear e0 e1 e2 e3 e4 e5 e6 e7 l0 l1 l2 l3 l4 l5 l6 l7 hqZ hpZ hBZ
            generalize v7.drewN nq = v8 at *
            obtain ⟨l0, l1, l2, l3, l4, l5, l6, l7⟩ := hp8.cells
            have hru : ∀ n, Calls Try.prog 13 #[.pointer (some ⟨b, 0, none⟩)] (v8.drewN n) fun e w' => e = .returned (.bool true) ∧ ∃ m, w' = (v8.drewN n).drewN m := fun n => by have h := runs_quiet b ⟨id2, fn2, ho2, mem2, 0, true, pi2, si2⟩ (v8.drewN n) hq8 hy4; rw [er] at h; exact h
            have hid : ∀ n, Calls Try.prog 14 #[.pointer (some ⟨b, 0, none⟩)] (v8.drewN n) fun e w' => e = .returned (.bool false) ∧ v8.drewN n = w' := fun n => by have h := idle_any b ⟨id2, fn2, ho2, mem2, 0, true, pi2, si2⟩ (v8.drewN n) hq8 hy4; rw [ei] at h; exact h
            clear er ei
            go_wp2_with fail
            go_quiet (first | (go_at_call 13; exact Calls.quiet_of ((hru _).mono fun e w' ⟨h1, m, h2⟩ => ⟨h1, m, h2⟩)) | (go_at_call 14; exact Calls.quiet_of_same ((hid _).mono fun e w' ⟨h1, h2⟩ => ⟨h1, h2.symm⟩)))
            go_wp2_with fail
            go_roundw
            case rel => exact StepRel.mk ⟨i + 1, ⟨id2, fn2, ho2, mem2, 0, true, pi2, si2⟩, by go_num, by omega, hy4, (fun h => by first | rfl | cases h), hq8, hp8, below_drewN hB8 _⟩
            case measure => simp [intOf]; omega
          · have er : runs ⟨id2, fn2, ho2, mem2, st2, false, pi2, si2⟩ = false := by
              have : ¬ st2 = 2 := fun h => by subst h; simp at hs2
              simp [runs, this]
            obtain ⟨s1, h1, ei⟩ : ∃ s1, ((st2 : Int) == 1) = s1 ∧ idle ⟨id2, fn2, ho2, mem2, st2, false, pi2, si2⟩ = s1 := by
              refine ⟨_, rfl, ?_⟩
              show (st2 == 1) = ((st2 : Int) == 1)
              by_cases h : st2 = 1
              · subst h; rfl
              · have a : (st2 == 1) = false := by simp; exact h
                have b : ((st2 : Int) == 1) = false := by simp; omega
                rw [a, b]
            go_wp2_with fail
            go_quiet (fail)
            have hq8 : Bq (v7.drewN nq) b ⟨id2, fn2, ho2, mem2, st2, false, pi2, si2⟩ := hqZ
            have hp8 : Bq (v7.drewN nq) wb ⟨id2, fn2, ho2, mem2, st2, false, pi2, si2⟩ := hpZ
            have hB8 : Below w.heap.size w (v7.drewN nq) := below_drewN hBZ _
            clear e0 e1 e2 e3 e4 e5 e6 e7 l0 l1 l2 l3 l4 l5 l6 l7 hqZ hpZ hBZ
            generalize v7.drewN nq = v8 at *
            obtain ⟨l0, l1, l2, l3, l4, l5, l6, l7⟩ := hp8.cells
            have hru : ∀ n, Calls Try.prog 13 #[.pointer (some ⟨b, 0, none⟩)] (v8.drewN n) fun e w' => e = .returned (.bool false) ∧ ∃ m, w' = (v8.drewN n).drewN m := fun n => by have h := runs_quiet b ⟨id2, fn2, ho2, mem2, st2, false, pi2, si2⟩ (v8.drewN n) hq8 hy4; rw [er] at h; exact h
            have hid : ∀ n, Calls Try.prog 14 #[.pointer (some ⟨b, 0, none⟩)] (v8.drewN n) fun e w' => e = .returned (.bool s1) ∧ v8.drewN n = w' := fun n => by have h := idle_any b ⟨id2, fn2, ho2, mem2, st2, false, pi2, si2⟩ (v8.drewN n) hq8 hy4; rw [ei] at h; exact h
            clear er ei
            go_wp2_with fail
            go_quiet (first | (go_at_call 13; exact Calls.quiet_of ((hru _).mono fun e w' ⟨h1, m, h2⟩ => ⟨h1, m, h2⟩)) | (go_at_call 14; exact Calls.quiet_of_same ((hid _).mono fun e w' ⟨h1, h2⟩ => ⟨h1, h2.symm⟩)))
            go_wp2_with fail
            go_roundw
            case rel => exact StepRel.mk ⟨i + 1, ⟨id2, fn2, ho2, mem2, st2, false, pi2, si2⟩, by go_num, by omega, hy4, (fun h => by first | rfl | cases h), hq8, hp8, below_drewN hB8 _⟩
            case measure => simp [intOf]; omega
        · obtain ⟨y, hy⟩ : ∃ y, done ⟨id', fn', ho', mem', st', bo', p, si'⟩ i = y := ⟨_, rfl⟩
          have hnx := next_2 ⟨id', fn', ho', mem', st', bo', p, si'⟩ i wc hq4
          have hco := fun W (h : Bq W b ⟨id', fn', ho', mem', st', bo', p, si'⟩) => done_any b ⟨id', fn', ho', mem', st', bo', p, si'⟩ i W h hq4
          have hy4 := done_st (x := ⟨id', fn', ho', mem', st', bo', p, si'⟩) i hq4
          have hyb := bd_done (x := ⟨id', fn', ho', mem', st', bo', p, si'⟩) (n := i) hqb
          rw [hy] at hnx hy4 hyb
          obtain ⟨⟨id2, fn2, ho2, mem2, st2, bo2, pi2, si2⟩, ok⟩ := y
          simp only [bc] at hnx
          simp only at hy4 hyb
          go_wp2_with fail
          refine hnx.mono ?_
          rintro e v5 ⟨rfl, hB5⟩
          have hq5 := hq.below hB5
          have hp5 := hp.below hB5
          have hq6 : Bq (v5.alloc (.cells #[.int .i64 id2, .int .i64 fn2, .int .i64 ho2, .int .i64 mem2, .int .i64 st2, .bool bo2, .bool pi2, .int .i64 si2] 29)) b ⟨id', fn', ho', mem', st', bo', p, si'⟩ := (Below.heap_alloc v5 _ b (lt_of hq5)).trans hq5
          have hco := hco _ hq6
          rw [hy] at hco
          clear hnx e0 e1 e2 e3 e4 e5 e6 e7
          go_wp2_with fail
          refine hco.mono ?_
          rintro e v6 ⟨rfl, hq7, hk7⟩
          have hsz7 := hk7.size
          have hlt5 := lt_of hq5
          have hlt5' := lt_of hp5
          have hnx7 : Bq v6 v5.heap.size ⟨id2, fn2, ho2, mem2, st2, bo2, pi2, si2⟩ := Bq.kept (w := v5.alloc (.cells #[.int .i64 id2, .int .i64 fn2, .int .i64 ho2, .int .i64 mem2, .int .i64 st2, .bool bo2, .bool pi2, .int .i64 si2] 29)) (heap_alloc_new _ _) hk7 (by omega)
          have hp7 : Bq v6 wb ⟨id', fn', ho', mem', st', bo', p, si'⟩ := Bq.kept (w := v5.alloc (.cells #[.int .i64 id2, .int .i64 fn2, .int .i64 ho2, .int .i64 mem2, .int .i64 st2, .bool bo2, .bool pi2, .int .i64 si2] 29)) ((Below.heap_alloc v5 _ wb (lt_of hp5)).trans hp5) hk7 (by omega)
          have hB7 : Below w.heap.size w v6 := ((hB.trans (hB5.mono hB.size)).alloc (Nat.le_trans hB.size hB5.size) _).trans (hk7.below (by simp; have := hB.size; have := hB5.size; omega) (fun x hx h => by omega))
          obtain ⟨e0, e1, e2, e3, e4, e5, e6, e7⟩ := hnx7.cells
          have ff := hp7.frozen
          have f0 := ff 0
          have f1 := ff 1
          have f2 := ff 2
          have f3 := ff 3
          have f4 := ff 4
          have f5 := ff 5
          have f6 := ff 6
          have f7 := ff 7
          clear ff l0 l1 l2 l3 l4 l5 l6 l7 hco hy hq5 hp5 hq6
          clear hco
          obtain ⟨l0, l1, l2, l3, l4, l5, l6, l7⟩ := hp7.cells
          have hpZ : Bq (setAll v6 wb ⟨id2, fn2, ho2, mem2, st2, bo2, pi2, si2⟩) wb ⟨id2, fn2, ho2, mem2, st2, bo2, pi2, si2⟩ := hp7.setAll ⟨id2, fn2, ho2, mem2, st2, bo2, pi2, si2⟩
          have hqZ : Bq (setAll v6 wb ⟨id2, fn2, ho2, mem2, st2, bo2, pi2, si2⟩) b ⟨id2, fn2, ho2, mem2, st2, bo2, pi2, si2⟩ := hq7.kept (keptAll v6 wb ⟨id2, fn2, ho2, mem2, st2, bo2, pi2, si2⟩) (by omega)
          have hBZ : Below w.heap.size w (setAll v6 wb ⟨id2, fn2, ho2, mem2, st2, bo2, pi2, si2⟩) := hB7.trans ((keptAll v6 wb ⟨id2, fn2, ho2, mem2, st2, bo2, pi2, si2⟩).below hB7.size (fun x hx h => by omega))
          dsimp only [setAll] at hpZ hqZ hBZ
          go_wp2_with fail
          obtain ⟨v7, hv7⟩ : ∃ v7, ((((((((v6.setCell ⟨wb, 0, none⟩ (.int .i64 id2)).setCell ⟨wb, 1, none⟩ (.int .i64 fn2)).setCell ⟨wb, 2, none⟩ (.int .i64 ho2)).setCell ⟨wb, 3, none⟩ (.int .i64 mem2)).setCell ⟨wb, 4, none⟩ (.int .i64 st2)).setCell ⟨wb, 5, none⟩ (.bool bo2)).setCell ⟨wb, 6, none⟩ (.bool pi2)).setCell ⟨wb, 7, none⟩ (.int .i64 si2)) = v7 := ⟨_, rfl⟩
          rw [hv7] at hpZ hqZ hBZ ⊢
          clear hv7
          clear e0 e1 e2 e3 e4 e5 e6 e7 l0 l1 l2 l3 l4 l5 l6 l7 f0 f1 f2 f3 f4 f5 f6 f7 hnx7 hp7 hq7
          obtain ⟨e0, e1, e2, e3, e4, e5, e6, e7⟩ := hqZ.cells
          obtain ⟨l0, l1, l2, l3, l4, l5, l6, l7⟩ := hpZ.cells
          have hc3 : (st2 = 2 ∧ bo2 = false) ∨ (st2 = 0 ∧ bo2 = true) ∨ (((st2 : Int) == 2) = false ∧ bo2 = false) := by
            cases bo2
            · by_cases h2 : st2 = 2
              · exact .inl ⟨h2, rfl⟩
              · exact .inr (.inr ⟨by simp; omega, rfl⟩)
            · exact .inr (.inl ⟨hyb rfl, rfl⟩)
          rcases hc3 with ⟨rfl, rfl⟩ | ⟨rfl, rfl⟩ | ⟨hs2, rfl⟩
          · have er : runs ⟨id2, fn2, ho2, mem2, 2, false, pi2, si2⟩ = true := rfl
            have ei : idle ⟨id2, fn2, ho2, mem2, 2, false, pi2, si2⟩ = false := rfl
            go_wp2_with fail
            go_quiet (fail)
            have hq8 : Bq (v7.drewN nq) b ⟨id2, fn2, ho2, mem2, 2, false, pi2, si2⟩ := hqZ
            have hp8 : Bq (v7.drewN nq) wb ⟨id2, fn2, ho2, mem2, 2, false, pi2, si2⟩ := hpZ
            have hB8 : Below w.heap.size w (v7.drewN nq) := below_drewN hBZ _
            clear e0 e1 e2 e3 e4 e5 e6 e7 l0 l1 l2 l3 l4 l5 l6 l7 hqZ hpZ hBZ
            generalize v7.drewN nq = v8 at *
            obtain ⟨l0, l1, l2, l3, l4, l5, l6, l7⟩ := hp8.cells
            have hru : ∀ n, Calls Try.prog 13 #[.pointer (some ⟨b, 0, none⟩)] (v8.drewN n) fun e w' => e = .returned (.bool true) ∧ ∃ m, w' = (v8.drewN n).drewN m := fun n => by have h := runs_quiet b ⟨id2, fn2, ho2, mem2, 2, false, pi2, si2⟩ (v8.drewN n) hq8 hy4; rw [er] at h; exact h
            have hid : ∀ n, Calls Try.prog 14 #[.pointer (some ⟨b, 0, none⟩)] (v8.drewN n) fun e w' => e = .returned (.bool false) ∧ v8.drewN n = w' := fun n => by have h := idle_any b ⟨id2, fn2, ho2, mem2, 2, false, pi2, si2⟩ (v8.drewN n) hq8 hy4; rw [ei] at h; exact h
            clear er ei
            go_wp2_with fail
            go_quiet (first | (go_at_call 13; exact Calls.quiet_of ((hru _).mono fun e w' ⟨h1, m, h2⟩ => ⟨h1, m, h2⟩)) | (go_at_call 14; exact Calls.quiet_of_same ((hid _).mono fun e w' ⟨h1, h2⟩ => ⟨h1, h2.symm⟩)))
            go_wp2_with fail
            go_roundw
            case rel => exact StepRel.mk ⟨i + 1, ⟨id2, fn2, ho2, mem2, 2, false, pi2, si2⟩, by go_num, by omega, hy4, (fun h => by first | rfl | cases h), hq8, hp8, below_drewN hB8 _⟩
            case measure => simp [intOf]; omega
          · have er : runs ⟨id2, fn2, ho2, mem2, 0, true, pi2, si2⟩ = true := rfl
            have ei : idle ⟨id2, fn2, ho2, mem2, 0, true, pi2, si2⟩ = false := rfl
            go_wp2_with fail
            go_quiet (fail)
            have hq8 : Bq (v7.drewN nq) b ⟨id2, fn2, ho2, mem2, 0, true, pi2, si2⟩ := hqZ
            have hp8 : Bq (v7.drewN nq) wb ⟨id2, fn2, ho2, mem2, 0, true, pi2, si2⟩ := hpZ
            have hB8 : Below w.heap.size w (v7.drewN nq) := below_drewN hBZ _
            clear e0 e1 e2 e3 e4 e5 e6 e7 l0 l1 l2 l3 l4 l5 l6 l7 hqZ hpZ hBZ
            generalize v7.drewN nq = v8 at *
            obtain ⟨l0, l1, l2, l3, l4, l5, l6, l7⟩ := hp8.cells
            have hru : ∀ n, Calls Try.prog 13 #[.pointer (some ⟨b, 0, none⟩)] (v8.drewN n) fun e w' => e = .returned (.bool true) ∧ ∃ m, w' = (v8.drewN n).drewN m := fun n => by have h := runs_quiet b ⟨id2, fn2, ho2, mem2, 0, true, pi2, si2⟩ (v8.drewN n) hq8 hy4; rw [er] at h; exact h
            have hid : ∀ n, Calls Try.prog 14 #[.pointer (some ⟨b, 0, none⟩)] (v8.drewN n) fun e w' => e = .returned (.bool false) ∧ v8.drewN n = w' := fun n => by have h := idle_any b ⟨id2, fn2, ho2, mem2, 0, true, pi2, si2⟩ (v8.drewN n) hq8 hy4; rw [ei] at h; exact h
            clear er ei
            go_wp2_with fail
            go_quiet (first | (go_at_call 13; exact Calls.quiet_of ((hru _).mono fun e w' ⟨h1, m, h2⟩ => ⟨h1, m, h2⟩)) | (go_at_call 14; exact Calls.quiet_of_same ((hid _).mono fun e w' ⟨h1, h2⟩ => ⟨h1, h2.symm⟩)))
            go_wp2_with fail
            go_roundw
            case rel => exact StepRel.mk ⟨i + 1, ⟨id2, fn2, ho2, mem2, 0, true, pi2, si2⟩, by go_num, by omega, hy4, (fun h => by first | rfl | cases h), hq8, hp8, below_drewN hB8 _⟩
            case measure => simp [intOf]; omega
          · have er : runs ⟨id2, fn2, ho2, mem2, st2, false, pi2, si2⟩ = false := by
              have : ¬ st2 = 2 := fun h => by subst h; simp at hs2
              simp [runs, this]
            obtain ⟨s1, h1, ei⟩ : ∃ s1, ((st2 : Int) == 1) = s1 ∧ idle ⟨id2, fn2, ho2, mem2, st2, false, pi2, si2⟩ = s1 := by
              refine ⟨_, rfl, ?_⟩
              show (st2 == 1) = ((st2 : Int) == 1)
              by_cases h : st2 = 1
              · subst h; rfl
              · have a : (st2 == 1) = false := by simp; exact h
                have b : ((st2 : Int) == 1) = false := by simp; omega
                rw [a, b]
            go_wp2_with fail
            go_quiet (fail)
            have hq8 : Bq (v7.drewN nq) b ⟨id2, fn2, ho2, mem2, st2, false, pi2, si2⟩ := hqZ
            have hp8 : Bq (v7.drewN nq) wb ⟨id2, fn2, ho2, mem2, st2, false, pi2, si2⟩ := hpZ
            have hB8 : Below w.heap.size w (v7.drewN nq) := below_drewN hBZ _
            clear e0 e1 e2 e3 e4 e5 e6 e7 l0 l1 l2 l3 l4 l5 l6 l7 hqZ hpZ hBZ
            generalize v7.drewN nq = v8 at *
            obtain ⟨l0, l1, l2, l3, l4, l5, l6, l7⟩ := hp8.cells
            have hru : ∀ n, Calls Try.prog 13 #[.pointer (some ⟨b, 0, none⟩)] (v8.drewN n) fun e w' => e = .returned (.bool false) ∧ ∃ m, w' = (v8.drewN n).drewN m := fun n => by have h := runs_quiet b ⟨id2, fn2, ho2, mem2, st2, false, pi2, si2⟩ (v8.drewN n) hq8 hy4; rw [er] at h; exact h
            have hid : ∀ n, Calls Try.prog 14 #[.pointer (some ⟨b, 0, none⟩)] (v8.drewN n) fun e w' => e = .returned (.bool s1) ∧ v8.drewN n = w' := fun n => by have h := idle_any b ⟨id2, fn2, ho2, mem2, st2, false, pi2, si2⟩ (v8.drewN n) hq8 hy4; rw [ei] at h; exact h
            clear er ei
            go_wp2_with fail
            go_quiet (first | (go_at_call 13; exact Calls.quiet_of ((hru _).mono fun e w' ⟨h1, m, h2⟩ => ⟨h1, m, h2⟩)) | (go_at_call 14; exact Calls.quiet_of_same ((hid _).mono fun e w' ⟨h1, h2⟩ => ⟨h1, h2.symm⟩)))
            go_wp2_with fail
            go_roundw
            case rel => exact StepRel.mk ⟨i + 1, ⟨id2, fn2, ho2, mem2, st2, false, pi2, si2⟩, by go_num, by omega, hy4, (fun h => by first | rfl | cases h), hq8, hp8, below_drewN hB8 _⟩
            case measure => simp [intOf]; omega
        · obtain ⟨y, hy⟩ : ∃ y, kill ⟨id', fn', ho', mem', st', bo', p, si'⟩ i = y := ⟨_, rfl⟩
          have hnx := next_3 ⟨id', fn', ho', mem', st', bo', p, si'⟩ i wc hq4
          have hco := fun W (h : Bq W b ⟨id', fn', ho', mem', st', bo', p, si'⟩) => kill_any b ⟨id', fn', ho', mem', st', bo', p, si'⟩ i W h hq4
          have hy4 := kill_st (x := ⟨id', fn', ho', mem', st', bo', p, si'⟩) i hq4
          have hyb := bd_kill (x := ⟨id', fn', ho', mem', st', bo', p, si'⟩) (n := i) hqb
          rw [hy] at hnx hy4 hyb
          obtain ⟨⟨id2, fn2, ho2, mem2, st2, bo2, pi2, si2⟩, ok⟩ := y
          simp only [bc] at hnx
          simp only at hy4 hyb
          go_wp2_with fail
          refine hnx.mono ?_
          rintro e v5 ⟨rfl, hB5⟩
          have hq5 := hq.below hB5
          have hp5 := hp.below hB5
          have hq6 : Bq (v5.alloc (.cells #[.int .i64 id2, .int .i64 fn2, .int .i64 ho2, .int .i64 mem2, .int .i64 st2, .bool bo2, .bool pi2, .int .i64 si2] 29)) b ⟨id', fn', ho', mem', st', bo', p, si'⟩ := (Below.heap_alloc v5 _ b (lt_of hq5)).trans hq5
          have hco := hco _ hq6
          rw [hy] at hco
          clear hnx e0 e1 e2 e3 e4 e5 e6 e7
          go_wp2_with fail
          refine hco.mono ?_
          rintro e v6 ⟨rfl, hq7, hk7⟩
          have hsz7 := hk7.size
          have hlt5 := lt_of hq5
          have hlt5' := lt_of hp5
          have hnx7 : Bq v6 v5.heap.size ⟨id2, fn2, ho2, mem2, st2, bo2, pi2, si2⟩ := Bq.kept (w := v5.alloc (.cells #[.int .i64 id2, .int .i64 fn2, .int .i64 ho2, .int .i64 mem2, .int .i64 st2, .bool bo2, .bool pi2, .int .i64 si2] 29)) (heap_alloc_new _ _) hk7 (by omega)
          have hp7 : Bq v6 wb ⟨id', fn', ho', mem', st', bo', p, si'⟩ := Bq.kept (w := v5.alloc (.cells #[.int .i64 id2, .int .i64 fn2, .int .i64 ho2, .int .i64 mem2, .int .i64 st2, .bool bo2, .bool pi2, .int .i64 si2] 29)) ((Below.heap_alloc v5 _ wb (lt_of hp5)).trans hp5) hk7 (by omega)
          have hB7 : Below w.heap.size w v6 := ((hB.trans (hB5.mono hB.size)).alloc (Nat.le_trans hB.size hB5.size) _).trans (hk7.below (by simp; have := hB.size; have := hB5.size; omega) (fun x hx h => by omega))
          obtain ⟨e0, e1, e2, e3, e4, e5, e6, e7⟩ := hnx7.cells
          have ff := hp7.frozen
          have f0 := ff 0
          have f1 := ff 1
          have f2 := ff 2
          have f3 := ff 3
          have f4 := ff 4
          have f5 := ff 5
          have f6 := ff 6
          have f7 := ff 7
          clear ff l0 l1 l2 l3 l4 l5 l6 l7 hco hy hq5 hp5 hq6
          clear hco
          obtain ⟨l0, l1, l2, l3, l4, l5, l6, l7⟩ := hp7.cells
          have hpZ : Bq (setAll v6 wb ⟨id2, fn2, ho2, mem2, st2, bo2, pi2, si2⟩) wb ⟨id2, fn2, ho2, mem2, st2, bo2, pi2, si2⟩ := hp7.setAll ⟨id2, fn2, ho2, mem2, st2, bo2, pi2, si2⟩
          have hqZ : Bq (setAll v6 wb ⟨id2, fn2, ho2, mem2, st2, bo2, pi2, si2⟩) b ⟨id2, fn2, ho2, mem2, st2, bo2, pi2, si2⟩ := hq7.kept (keptAll v6 wb ⟨id2, fn2, ho2, mem2, st2, bo2, pi2, si2⟩) (by omega)
          have hBZ : Below w.heap.size w (setAll v6 wb ⟨id2, fn2, ho2, mem2, st2, bo2, pi2, si2⟩) := hB7.trans ((keptAll v6 wb ⟨id2, fn2, ho2, mem2, st2, bo2, pi2, si2⟩).below hB7.size (fun x hx h => by omega))
          dsimp only [setAll] at hpZ hqZ hBZ
          go_wp2_with fail
          obtain ⟨v7, hv7⟩ : ∃ v7, ((((((((v6.setCell ⟨wb, 0, none⟩ (.int .i64 id2)).setCell ⟨wb, 1, none⟩ (.int .i64 fn2)).setCell ⟨wb, 2, none⟩ (.int .i64 ho2)).setCell ⟨wb, 3, none⟩ (.int .i64 mem2)).setCell ⟨wb, 4, none⟩ (.int .i64 st2)).setCell ⟨wb, 5, none⟩ (.bool bo2)).setCell ⟨wb, 6, none⟩ (.bool pi2)).setCell ⟨wb, 7, none⟩ (.int .i64 si2)) = v7 := ⟨_, rfl⟩
          rw [hv7] at hpZ hqZ hBZ ⊢
          clear hv7
          clear e0 e1 e2 e3 e4 e5 e6 e7 l0 l1 l2 l3 l4 l5 l6 l7 f0 f1 f2 f3 f4 f5 f6 f7 hnx7 hp7 hq7
          obtain ⟨e0, e1, e2, e3, e4, e5, e6, e7⟩ := hqZ.cells
          obtain ⟨l0, l1, l2, l3, l4, l5, l6, l7⟩ := hpZ.cells
          have hc3 : (st2 = 2 ∧ bo2 = false) ∨ (st2 = 0 ∧ bo2 = true) ∨ (((st2 : Int) == 2) = false ∧ bo2 = false) := by
            cases bo2
            · by_cases h2 : st2 = 2
              · exact .inl ⟨h2, rfl⟩
              · exact .inr (.inr ⟨by simp; omega, rfl⟩)
            · exact .inr (.inl ⟨hyb rfl, rfl⟩)
          rcases hc3 with ⟨rfl, rfl⟩ | ⟨rfl, rfl⟩ | ⟨hs2, rfl⟩
          · have er : runs ⟨id2, fn2, ho2, mem2, 2, false, pi2, si2⟩ = true := rfl
            have ei : idle ⟨id2, fn2, ho2, mem2, 2, false, pi2, si2⟩ = false := rfl
            go_wp2_with fail
            go_quiet (fail)
            have hq8 : Bq (v7.drewN nq) b ⟨id2, fn2, ho2, mem2, 2, false, pi2, si2⟩ := hqZ
            have hp8 : Bq (v7.drewN nq) wb ⟨id2, fn2, ho2, mem2, 2, false, pi2, si2⟩ := hpZ
            have hB8 : Below w.heap.size w (v7.drewN nq) := below_drewN hBZ _
            clear e0 e1 e2 e3 e4 e5 e6 e7 l0 l1 l2 l3 l4 l5 l6 l7 hqZ hpZ hBZ
            generalize v7.drewN nq = v8 at *
            obtain ⟨l0, l1, l2, l3, l4, l5, l6, l7⟩ := hp8.cells
            have hru : ∀ n, Calls Try.prog 13 #[.pointer (some ⟨b, 0, none⟩)] (v8.drewN n) fun e w' => e = .returned (.bool true) ∧ ∃ m, w' = (v8.drewN n).drewN m := fun n => by have h := runs_quiet b ⟨id2, fn2, ho2, mem2, 2, false, pi2, si2⟩ (v8.drewN n) hq8 hy4; rw [er] at h; exact h
            have hid : ∀ n, Calls Try.prog 14 #[.pointer (some ⟨b, 0, none⟩)] (v8.drewN n) fun e w' => e = .returned (.bool false) ∧ v8.drewN n = w' := fun n => by have h := idle_any b ⟨id2, fn2, ho2, mem2, 2, false, pi2, si2⟩ (v8.drewN n) hq8 hy4; rw [ei] at h; exact h
            clear er ei
            go_wp2_with fail
            go_quiet (first | (go_at_call 13; exact Calls.quiet_of ((hru _).mono fun e w' ⟨h1, m, h2⟩ => ⟨h1, m, h2⟩)) | (go_at_call 14; exact Calls.quiet_of_same ((hid _).mono fun e w' ⟨h1, h2⟩ => ⟨h1, h2.symm⟩)))
            go_wp2_with fail
            go_roundw
            case rel => exact StepRel.mk ⟨i + 1, ⟨id2, fn2, ho2, mem2, 2, false, pi2, si2⟩, by go_num, by omega, hy4, (fun h => by first | rfl | cases h), hq8, hp8, below_drewN hB8 _⟩
            case measure => simp [intOf]; omega
          · have er : runs ⟨id2, fn2, ho2, mem2, 0, true, pi2, si2⟩ = true := rfl
            have ei : idle ⟨id2, fn2, ho2, mem2, 0, true, pi2, si2⟩ = false := rfl
            go_wp2_with fail
            go_quiet (fail)
            have hq8 : Bq (v7.drewN nq) b ⟨id2, fn2, ho2, mem2, 0, true, pi2, si2⟩ := hqZ
            have hp8 : Bq (v7.drewN nq) wb ⟨id2, fn2, ho2, mem2, 0, true, pi2, si2⟩ := hpZ
            have hB8 : Below w.heap.size w (v7.drewN nq) := below_drewN hBZ _
            clear e0 e1 e2 e3 e4 e5 e6 e7 l0 l1 l2 l3 l4 l5 l6 l7 hqZ hpZ hBZ
            generalize v7.drewN nq = v8 at *
            obtain ⟨l0, l1, l2, l3, l4, l5, l6, l7⟩ := hp8.cells
            have hru : ∀ n, Calls Try.prog 13 #[.pointer (some ⟨b, 0, none⟩)] (v8.drewN n) fun e w' => e = .returned (.bool true) ∧ ∃ m, w' = (v8.drewN n).drewN m := fun n => by have h := runs_quiet b ⟨id2, fn2, ho2, mem2, 0, true, pi2, si2⟩ (v8.drewN n) hq8 hy4; rw [er] at h; exact h
            have hid : ∀ n, Calls Try.prog 14 #[.pointer (some ⟨b, 0, none⟩)] (v8.drewN n) fun e w' => e = .returned (.bool false) ∧ v8.drewN n = w' := fun n => by have h := idle_any b ⟨id2, fn2, ho2, mem2, 0, true, pi2, si2⟩ (v8.drewN n) hq8 hy4; rw [ei] at h; exact h
            clear er ei
            go_wp2_with fail
            go_quiet (first | (go_at_call 13; exact Calls.quiet_of ((hru _).mono fun e w' ⟨h1, m, h2⟩ => ⟨h1, m, h2⟩)) | (go_at_call 14; exact Calls.quiet_of_same ((hid _).mono fun e w' ⟨h1, h2⟩ => ⟨h1, h2.symm⟩)))
            go_wp2_with fail
            go_roundw
            case rel => exact StepRel.mk ⟨i + 1, ⟨id2, fn2, ho2, mem2, 0, true, pi2, si2⟩, by go_num, by omega, hy4, (fun h => by first | rfl | cases h), hq8, hp8, below_drewN hB8 _⟩
            case measure => simp [intOf]; omega
          · have er : runs ⟨id2, fn2, ho2, mem2, st2, false, pi2, si2⟩ = false := by
              have : ¬ st2 = 2 := fun h => by subst h; simp at hs2
              simp [runs, this]
            obtain ⟨s1, h1, ei⟩ : ∃ s1, ((st2 : Int) == 1) = s1 ∧ idle ⟨id2, fn2, ho2, mem2, st2, false, pi2, si2⟩ = s1 := by
              refine ⟨_, rfl, ?_⟩
              show (st2 == 1) = ((st2 : Int) == 1)
              by_cases h : st2 = 1
              · subst h; rfl
              · have a : (st2 == 1) = false := by simp; exact h
                have b : ((st2 : Int) == 1) = false := by simp; omega
                rw [a, b]
            go_wp2_with fail
            go_quiet (fail)
            have hq8 : Bq (v7.drewN nq) b ⟨id2, fn2, ho2, mem2, st2, false, pi2, si2⟩ := hqZ
            have hp8 : Bq (v7.drewN nq) wb ⟨id2, fn2, ho2, mem2, st2, false, pi2, si2⟩ := hpZ
            have hB8 : Below w.heap.size w (v7.drewN nq) := below_drewN hBZ _
            clear e0 e1 e2 e3 e4 e5 e6 e7 l0 l1 l2 l3 l4 l5 l6 l7 hqZ hpZ hBZ
            generalize v7.drewN nq = v8 at *
            obtain ⟨l0, l1, l2, l3, l4, l5, l6, l7⟩ := hp8.cells
            have hru : ∀ n, Calls Try.prog 13 #[.pointer (some ⟨b, 0, none⟩)] (v8.drewN n) fun e w' => e = .returned (.bool false) ∧ ∃ m, w' = (v8.drewN n).drewN m := fun n => by have h := runs_quiet b ⟨id2, fn2, ho2, mem2, st2, false, pi2, si2⟩ (v8.drewN n) hq8 hy4; rw [er] at h; exact h
            have hid : ∀ n, Calls Try.prog 14 #[.pointer (some ⟨b, 0, none⟩)] (v8.drewN n) fun e w' => e = .returned (.bool s1) ∧ v8.drewN n = w' := fun n => by have h := idle_any b ⟨id2, fn2, ho2, mem2, st2, false, pi2, si2⟩ (v8.drewN n) hq8 hy4; rw [ei] at h; exact h
            clear er ei
            go_wp2_with fail
            go_quiet (first | (go_at_call 13; exact Calls.quiet_of ((hru _).mono fun e w' ⟨h1, m, h2⟩ => ⟨h1, m, h2⟩)) | (go_at_call 14; exact Calls.quiet_of_same ((hid _).mono fun e w' ⟨h1, h2⟩ => ⟨h1, h2.symm⟩)))
            go_wp2_with fail
            go_roundw
            case rel => exact StepRel.mk ⟨i + 1, ⟨id2, fn2, ho2, mem2, st2, false, pi2, si2⟩, by go_num, by omega, hy4, (fun h => by first | rfl | cases h), hq8, hp8, below_drewN hB8 _⟩
            case measure => simp [intOf]; omega
    · obtain rfl : i = z4.length := by omega
      go_wp2_with fail
      go_ret
      exact ⟨rfl, hB⟩
end Go.Proofs.Ytjehcgmbkhekmaa
