/- Whatever bytes, number by number: the walk. -/
import Derived.Test.YtpecjoalahgfpaaWalks3
namespace Go.Proofs.Ytpecjoalahgfpaa
open Go.RowKit Go.Kpt WirePure
set_option linter.unusedVariables false

theorem nats_of {z : List Int} (h : ∀ n ∈ z, 0 ≤ n) : ∃ zs : List Nat, z = ib zs := by
  refine ⟨z.map Int.toNat, ?_⟩
  simp only [ib, List.map_map]
  conv => lhs; rw [← List.map_id z]
  apply List.map_congr_left
  intro n hn
  have := h n hn
  simp only [id, Function.comp]
  exact (Int.toNat_of_nonneg this).symm

/-- An argument's bytes. -/
theorem isBytes {w : World} {a : Option Addr} {z : List Int} (h : IsInts .u8 w a z) : ∃ zs : List Nat, z = ib zs ∧ (∀ c ∈ zs, c < 256) ∧ Sl .u8 w (fun x => x < w.heap.size) a (ib zs) := by
  obtain ⟨zs, rfl⟩ := nats_of (z := z) (fun n hn => (bounds_u8 (h.2.1 n hn)).1)
  refine ⟨zs, rfl, fun c hc => ?_, fun i hi => ?_⟩
  · have := (bounds_u8 (h.2.1 (Int.ofNat c) (List.mem_map.2 ⟨c, hc, rfl⟩))).2
    simp at this; omega
  · obtain ⟨b, off, ha, hc⟩ := h.2.2 i hi
    exact ⟨b, off, ha, block_lt_of_cell hc, hc⟩

/-- An argument's numbers. -/
theorem isU64s {w : World} {a : Option Addr} {z : List Int} (h : IsInts .u64 w a z) : ∃ zs : List Nat, z = ib zs ∧ (∀ c ∈ zs, c < 18446744073709551616) ∧ Sl .u64 w (fun x => x < w.heap.size) a (ib zs) := by
  obtain ⟨zs, rfl⟩ := nats_of (z := z) (fun n hn => (bounds_u64 (h.2.1 n hn)).1)
  refine ⟨zs, rfl, fun c hc => ?_, fun i hi => ?_⟩
  · have := (bounds_u64 (h.2.1 (Int.ofNat c) (List.mem_map.2 ⟨c, hc, rfl⟩))).2
    simp at this; omega
  · obtain ⟨b, off, ha, hc⟩ := h.2.2 i hi
    exact ⟨b, off, ha, block_lt_of_cell hc, hc⟩

theorem res_shift (D : Option (Nat × Nat)) (most at_ n k f : Nat) (h : res D most 0 = (n, k, f)) : res D most at_ = (n, at_ + k, f) := by
  unfold res at *
  cases D with
  | none => simp at h ⊢; omega
  | some x =>
    simp only at h ⊢
    split at h
    · rename_i g; rw [if_pos g]; simp at h ⊢; omega
    · rename_i g; rw [if_neg g]; simp at h ⊢; omega

theorem more_eq (e at_ len : Nat) : decide (e = 0 ∧ at_ < len) = (decide (e = 0) && decide (at_ < len)) := by
  by_cases h1 : e = 0 <;> by_cases h2 : at_ < len <;> simp [h1, h2]

set_option maxRecDepth 100000 in
set_option maxHeartbeats 2000000 in
theorem wireReads_any (a0 : Option Addr) (cap0 : Nat) (zs : List Nat) (a1 : Option Addr) (cap1 : Nat) (ms : List Nat) (w : World) (hcb : ∀ c ∈ zs, c < 256) (hsl0 : Sl .u8 w (fun x => x < w.heap.size) a0 (ib zs)) (hcap : zs.length ≤ cap0)
    (hsl1 : Sl .u64 w (fun x => x < w.heap.size) a1 (ib ms)) :
    Calls Try.prog 4 #[.slice a0 zs.length cap0, .slice a1 ms.length cap1] w fun e w' => e = .returned (.bool true) ∧ Below w.heap.size w w' := by
  go_enter Try.func4, Try.ntmps4
  go_wp2_with fail
  refine (head_any _).mono ?_
  rintro e w1 ⟨rfl, hB1⟩
  by_cases hb1 : 200 < zs.length
  · have g1 : (200 : Int) < (zs.length : Int) := by omega
    go_wp2_with fail
    go_ret
    exact ⟨rfl, hB1⟩
  have g1 : ¬ (200 : Int) < (zs.length : Int) := by omega
  by_cases hb2 : 60 < ms.length
  · have g2 : (60 : Int) < (ms.length : Int) := by omega
    go_wp2_with fail
    go_ret
    exact ⟨rfl, hB1⟩
  have g2 : ¬ (60 : Int) < (ms.length : Int) := by omega
  have hr := read_any a0 zs.length cap0 w1
  go_wp2_with fail
  refine hr.mono ?_
  rintro e w2 ⟨rfl, hrd, hB2, hs2⟩
  have hZ : Below w.heap.size w w2 := hB1.trans (hB2.mono hB1.size)
  have hsl02 := hsl0.kept (Kept.of_below (F := fun _ => False) hZ) (fun x hx h => h)
  have hsl12 := hsl1.kept (Kept.of_below (F := fun _ => False) hZ) (fun x hx h => h)
  have hbase := hB1.size
  clear hr hsl0 hsl1
  obtain ⟨r, hrr⟩ : ∃ r, w1.heap.size = r := ⟨_, rfl⟩
  rw [hrr] at hrd hbase ⊢
  have hrlt := lt_of hrd
  clear hB1 hB2 hs2 hrr
  go_wp2_with fail
  go_loopw [28, 6, 7] (fun x y z wr => ∃ (i at_ e : Nat), x = .int .i64 i ∧ y = .int .i64 at_ ∧ z = .int .i64 e ∧ i ≤ ms.length ∧ at_ ≤ zs.length ∧ Rd wr r a0 zs.length cap0 at_ e ∧ Kept (fun x => x = r) w2 wr) (fun x _ _ _ => ms.length - (intOf x).toNat)
  case atStart => exact ⟨0, 0, 0, rfl, rfl, rfl, by omega, by omega, hrd, Kept.refl _ _⟩
  case round =>
    clear hrd
    obtain ⟨i, at_, e, rfl, rfl, rfl, hi, hat, hrd, hK⟩ := hrel
    by_cases hlt : i < ms.length
    · obtain ⟨b, off, rfl, hb, hcell⟩ := hsl12 i (by rw [ib_length]; omega)
      have hcell := (hK.cell (p := ⟨b, off + i, none⟩) (show b < _ by have := hZ.size; omega) (show ¬ b = r by omega)).trans hcell
      obtain ⟨m, hm⟩ : ∃ m, ms.getD i 0 = m := ⟨_, rfl⟩
      rw [ib_getD, hm] at hcell
      have hslr := hsl02.kept hK (fun x hx h => by omega)
      have j1 : (i : Int) < (ms.length : Int) := by omega
      obtain ⟨⟨n, k, f⟩, hres⟩ : ∃ q, (if e = 0 then res (dec 0 (zs.drop at_)) m 0 else (0, 0, e)) = q := ⟨_, rfl⟩
      have hnxt : nxt e zs m at_ = (n, at_ + k, f) := by
        unfold nxt
        by_cases he : e = 0
        · rw [if_pos he] at hres ⊢; exact res_shift _ _ _ _ _ _ hres
        · rw [if_neg he] at hres ⊢; simp at hres ⊢; omega
      have hnum := num_any r a0 cap0 at_ m e zs _ wr hrd hslr (fun x hx => by omega) hat hcap (by omega) hcb _ _ _ hnxt
      have hat2 := nxt_le hnxt hat
      have k1 : (at_ : Int) + (k : Int) = ((at_ + k : Nat) : Int) := by omega
      have k2 : IntKind.i64.wrap ((at_ + k : Nat) : Int) = ((at_ + k : Nat) : Int) := IntWalk.i64_in _ ⟨by omega, by omega⟩
      clear hnxt hm
      by_cases he : e = 0
      · rw [if_pos he] at hres
        subst he
        obtain ⟨a2, ha2, hsl2⟩ : ∃ a2, ((cap0 = at_ ∧ a2 = a0) ∨ (¬ cap0 = at_ ∧ Option.map (fun x => x.add at_) a0 = a2)) ∧ Sl .u8 wr (fun x => x < w.heap.size) a2 (ib (zs.drop at_)) := by
          by_cases hc : cap0 = at_
          · exact ⟨a0, .inl ⟨hc, rfl⟩, by rw [List.drop_eq_nil_of_le (by omega)]; intro i hi; simp [ib] at hi⟩
          · exact ⟨_, .inr ⟨hc, rfl⟩, by rw [ib_drop]; exact Sl.drop hslr at_⟩
        have hone := fun c => one_any a2 c m (zs.drop at_) _ wr hsl2 (by simp; omega) (fun c hc => hcb c (List.mem_of_mem_drop hc)) n k f hres k rfl
        rw [List.length_drop] at hone
        have i1 : (at_ : Int) ≤ (zs.length : Int) := by omega
        have i2 : (zs.length : Int) ≤ (cap0 : Int) := by omega
        clear hres hsl2 hslr
        generalize at_ + k = at2 at *
        rcases ha2 with ⟨hc, rfl⟩ | ⟨hc, ha2⟩
        all_goals
          go_wp2_with fail
          refine (hone _).mono ?_
          rintro x w3 ⟨rfl, rfl⟩
          clear hone hc

          go_wp2_with fail
          refine hnum.mono ?_
          rintro x w4 ⟨rfl, hrd4, hk4⟩
          have hee := err_any _ _ _ _ _ _ w4 hrd4
          have haa := at_any _ _ _ _ _ _ w4 hrd4
          have hmm := more_any _ _ _ _ _ _ w4 hrd4
          clear hnum hrd
          go_wp2_with fail
          refine hee.mono ?_
          rintro x w5 ⟨rfl, rfl⟩
          go_wp2_with fail
          refine haa.mono ?_
          rintro x w5 ⟨rfl, rfl⟩
          by_cases hf : f = 0
          · have d : ((f : Int) == 0) = true := by simp; omega
            rw [show decide (f = 0 ∧ at2 < zs.length) = decide (at2 < zs.length) by simp [hf]] at hmm
            clear hf
            go_wp2_with fail
            refine hmm.mono ?_
            rintro x w5 ⟨rfl, hB5⟩
            have hrd5 := hrd4.below hB5
            have hK5 : Kept (fun x => x = r) w2 w5 := (hK.trans hk4 (fun _ _ h => h)).trans (Kept.of_below (F := fun _ => False) hB5) (fun _ _ h => h.elim)
            go_wp2_with fail
            go_roundw
            case rel => exact ⟨i + 1, at2, f, by go_num, rfl, rfl, by omega, hat2, hrd5, hK5⟩
            case measure => simp [intOf]; omega

          · have d : ((f : Int) == 0) = false := by simp; omega
            rw [show decide (f = 0 ∧ at2 < zs.length) = false by simp [hf]] at hmm
            clear hf
            go_wp2_with fail
            refine hmm.mono ?_
            rintro x w5 ⟨rfl, hB5⟩
            have hrd5 := hrd4.below hB5
            have hK5 : Kept (fun x => x = r) w2 w5 := (hK.trans hk4 (fun _ _ h => h)).trans (Kept.of_below (F := fun _ => False) hB5) (fun _ _ h => h.elim)
            go_wp2_with fail
            go_roundw
            case rel => exact ⟨i + 1, at2, f, by go_num, rfl, rfl, by omega, hat2, hrd5, hK5⟩
            case measure => simp [intOf]; omega
      · rw [if_neg he] at hres
        obtain ⟨rfl, rfl, rfl⟩ : n = 0 ∧ k = 0 ∧ e = f := by simp at hres; omega
        have d : ((e : Int) == 0) = false := by simp; omega
        have hmf : decide (e = 0 ∧ at_ < zs.length) = false := by simp [he]
        clear hres he k1 k2
        go_wp2_with fail
        refine hnum.mono ?_
        rintro x w4 ⟨rfl, hrd4, hk4⟩
        have hee := err_any _ _ _ _ _ _ w4 hrd4
        have haa := at_any _ _ _ _ _ _ w4 hrd4
        have hmm := more_any _ _ _ _ _ _ w4 hrd4
        clear hnum hrd
        go_wp2_with fail
        refine hee.mono ?_
        rintro x w5 ⟨rfl, rfl⟩
        go_wp2_with fail
        refine haa.mono ?_
        rintro x w5 ⟨rfl, rfl⟩

        rw [show decide (e = 0 ∧ at_ + 0 < zs.length) = false from hmf] at hmm

        go_wp2_with fail
        refine hmm.mono ?_
        rintro x w5 ⟨rfl, hB5⟩
        have hrd5 := hrd4.below hB5
        have hK5 : Kept (fun x => x = r) w2 w5 := (hK.trans hk4 (fun _ _ h => h)).trans (Kept.of_below (F := fun _ => False) hB5) (fun _ _ h => h.elim)
        go_wp2_with fail
        go_roundw
        case rel => exact ⟨i + 1, at_, e, by go_num, rfl, rfl, by omega, hat, hrd5, hK5⟩
        case measure => simp [intOf]; omega
    · obtain rfl : i = ms.length := by omega
      go_wp2_with fail
      go_ret
      exact ⟨rfl, hZ.trans (hK.below (by have := hZ.size; omega) (fun x hx h => by omega))⟩

theorem wireReads_walk (a0 : Option Addr) (cap0 : Nat) (z0 : List Int) (a1 : Option Addr) (cap1 : Nat) (z1 : List Int) (w : World) (w0 : IsInts .u8 w a0 z0) (y0 : z0.length ≤ cap0) (w1 : IsInts .u64 w a1 z1) (y1 : z1.length ≤ cap1) :
    Calls Try.prog 4 #[.slice a0 z0.length cap0, .slice a1 z1.length cap1] w fun e w' => e = .returned (.bool true) ∧ Below w.heap.size w w' := by
  obtain ⟨zs, rfl, hcb, hsl0⟩ := isBytes w0
  obtain ⟨ms, rfl, _, hsl1⟩ := isU64s w1
  rw [ib_length] at y0
  rw [ib_length, ib_length]
  exact wireReads_any a0 cap0 zs a1 cap1 ms w hcb hsl0 y0 hsl1
end Go.Proofs.Ytpecjoalahgfpaa
