/- One number has one form: the walk. -/
import Derived.Test.YtpecjoalahgfpaaConv
namespace Go.Proofs.Ytpecjoalahgfpaa
open Go.RowKit Go.Kpt WirePure
set_option linter.unusedVariables false

/-- How much is still to be read. -/
def mea (w : World) (r len : Nat) : Nat := match w.cell? ⟨r, 1, none⟩, w.cell? ⟨r, 2, none⟩ with
  | some (.int _ a), some (.int _ e) => if e = 0 then len - a.toNat + 1 else 0
  | _, _ => 0

theorem Rd.mea {w : World} {r : Nat} {a : Option Addr} {len cap at_ e : Nat} (h : Rd w r a len cap at_ e) (l : Nat) : mea w r l = if e = 0 then l - at_ + 1 else 0 := by
  have c1 : w.cell? ⟨r, 1, none⟩ = some (.int .i64 at_) := cell_of h
  have c2 : w.cell? ⟨r, 2, none⟩ = some (.int .i64 e) := cell_of h
  unfold Proofs.Ytpecjoalahgfpaa.mea
  rw [c1, c2]
  simp

set_option maxRecDepth 100000 in
set_option maxHeartbeats 2000000 in
theorem wireOnes_any (a0 : Option Addr) (cap0 : Nat) (zs : List Nat) (w : World) (hcb : ∀ c ∈ zs, c < 256) (hsl0 : Sl .u8 w (fun x => x < w.heap.size) a0 (ib zs)) (hcap : zs.length ≤ cap0) :
    Calls Try.prog 5 #[.slice a0 zs.length cap0] w fun e w' => e = .returned (.bool true) ∧ Below w.heap.size w w' := by
  go_enter Try.func5, Try.ntmps5
  go_wp2_with fail
  refine (head_any _).mono ?_
  rintro e w1 ⟨rfl, hB1⟩
  by_cases hb1 : 200 < zs.length
  · have g1 : (200 : Int) < (zs.length : Int) := by omega
    go_wp2_with fail
    go_ret
    exact ⟨rfl, hB1⟩
  have g1 : ¬ (200 : Int) < (zs.length : Int) := by omega
  have hr := read_any a0 zs.length cap0 w1
  go_wp2_with fail
  refine hr.mono ?_
  rintro e w2 ⟨rfl, hrd, hB2, hs2⟩
  have hZ : Below w.heap.size w w2 := hB1.trans (hB2.mono hB1.size)
  have hsl02 := hsl0.kept (Kept.of_below (F := fun _ => False) hZ) (fun x hx h => h)
  have hbase := hB1.size
  clear hr hsl0
  obtain ⟨r, hrr⟩ : ∃ r, w1.heap.size = r := ⟨_, rfl⟩
  rw [hrr] at hrd hbase ⊢
  have hrlt := lt_of hrd
  clear hB1 hB2 hs2 hrr
  have hown := OwnI.empty w2 w2.heap.size 5 .u8 (Nat.le_refl _)
  have hrd0 : Rd (w2.alloc (.cells #[] 5)) r a0 zs.length cap0 0 0 := (Below.heap_alloc w2 _ r hrlt).trans hrd
  go_wp2_with fail
  go_loopw [4] (fun x wr => ∃ (at_ e : Nat), OwnI wr w2.heap.size 5 .u8 x (ib (zs.take at_)) ∧ at_ ≤ zs.length ∧ Rd wr r a0 zs.length cap0 at_ e ∧ Kept (fun x => x = r) w2 wr) (fun _ wr => mea wr r zs.length)
  case atStart => exact ⟨0, 0, hown, by omega, hrd0, (Kept.refl _ _).alloc _⟩
  case round =>
    clear hrd hrd0 hown
    obtain ⟨at_, e, hown, hat, hrd, hK⟩ := hrel
    have hmm := more_any _ _ _ _ _ _ wr hrd
    have hmea := hrd.mea zs.length
    have hsz := hK.size
    by_cases hmo : e = 0 ∧ at_ < zs.length
    · obtain ⟨rfl, hlt⟩ := hmo
      rw [show decide ((0 : Nat) = 0 ∧ at_ < zs.length) = true by simp [hlt]] at hmm
      rw [if_pos rfl] at hmea
      go_wp2_with fail
      refine hmm.mono ?_
      rintro x wa ⟨rfl, hBa⟩
      have hrda := hrd.below hBa
      have hsla := (hsl02.kept hK (fun x hx h => by omega)).kept (Kept.of_below (F := fun _ => False) hBa) (fun x hx h => h)
      have howna := hown.kept (Kept.of_below (F := fun _ => False) hBa) (fun g hg h => h)
      have hKa : Kept (fun x => x = r) w2 wa := hK.trans (Kept.of_below (F := fun _ => False) hBa) (fun _ _ h => h.elim)
      have haa := at_any _ _ _ _ _ _ wa hrda
      clear hmm hown hrd
      go_wp2_with fail
      refine haa.mono ?_
      rintro x wb ⟨rfl, rfl⟩
      cases hD : dec 0 (zs.drop at_) with
      | none =>
        have hn := num_any r a0 cap0 at_ 18446744073709551615 0 zs _ wa hrda hsla (fun x hx => by omega) hat hcap (by omega) hcb 0 at_ 5 (by simp [nxt, hD, res])
        clear haa
        go_wp2_with fail
        refine hn.mono ?_
        rintro x wb ⟨rfl, hrdb, hkb⟩
        have hee := err_any _ _ _ _ _ _ wb hrdb
        have hownb := howna.kept hkb (fun g hg h => by have := howna.lt g hg; omega)
        have hmb := hrdb.mea zs.length
        clear hn howna
        go_wp2_with fail
        refine hee.mono ?_
        rintro x wc ⟨rfl, rfl⟩
        go_wp2_with fail
        go_roundw
        case rel => exact ⟨at_, 5, hownb, hat, hrdb, hKa.trans hkb (fun _ _ h => h)⟩
        case measure => rw [hmea, hmb]; simp
      | some q =>
        obtain ⟨n, k⟩ := q
        obtain ⟨hkl, htk, hn64⟩ := enc_dec0 (fun c hc => hcb c (List.mem_of_mem_drop hc)) hD
        have hk1 := (dec_pos _ _ _ _ hD).1
        have hkl2 : at_ + k ≤ zs.length := by simp at hkl; omega
        have htake : zs.take at_ ++ enc n = zs.take (at_ + k) := by rw [← htk, List.take_add]
        have hn := num_any r a0 cap0 at_ 18446744073709551615 0 zs _ wa hrda hsla (fun x hx => by omega) hat hcap (by omega) hcb n (at_ + k) 0 (by simp [nxt, hD, res]; omega)
        clear haa htk hD hkl
        go_wp2_with fail
        refine hn.mono ?_
        rintro x wb ⟨rfl, hrdb, hkb⟩
        have hee := err_any _ _ _ _ _ _ wb hrdb
        have hownb := howna.kept hkb (fun g hg h => by have := howna.lt g hg; omega)
        have hKb := hKa.trans hkb (fun _ _ h => h)
        clear hn howna
        go_wp2_with fail
        refine hee.mono ?_
        rintro x wc ⟨rfl, rfl⟩
        obtain ⟨p1, c1, rfl, hc1, -, hslb⟩ := hownb.sl
        have hlen : (zs.take at_).length = at_ := by simp; omega
        rw [ib_length, hlen] at hc1 ⊢
        have hput := put_any p1 c1 (zs.take at_) n (by omega) _ wb hslb (by simp; omega)
        rw [htake, hlen] at hput
        clear hlen
        clear hee hownb hslb
        go_wp2_with fail
        refine hput.mono ?_
        rintro x wc ⟨v, rfl, hownc, hBc⟩
        have hrdc := hrdb.below hBc
        have hKc : Kept (fun x => x = r) w2 wc := hKb.trans (Kept.of_below (F := fun _ => False) hBc) (fun _ _ h => h.elim)
        have hac := at_any _ _ _ _ _ _ wc hrdc
        have hownd : OwnI wc w2.heap.size 5 .u8 v (ib (zs.take (at_ + k))) := hownc.mono hKb.size
        have hmc := hrdc.mea zs.length
        have hcmp : ¬ ((at_ + k : Nat) : Int) ≤ (at_ : Int) := by omega
        clear hput hownc htake
        obtain ⟨at2, hat2⟩ : ∃ at2, at_ + k = at2 := ⟨_, rfl⟩
        have hlt2 : at_ < at2 := by omega
        rw [hat2] at hrdc hac hownd hmc hcmp hkl2
        clear hat2
        go_wp2_with fail
        refine hac.mono ?_
        rintro x wd ⟨rfl, rfl⟩
        go_wp2_with fail
        go_roundw
        case rel => exact ⟨at2, 0, hownd, hkl2, hrdc, hKc⟩
        case measure => rw [hmea, hmc]; simp; omega
    · rw [show decide (e = 0 ∧ at_ < zs.length) = false by simp only [decide_eq_false_iff_not]; exact hmo] at hmm
      go_wp2_with fail
      refine hmm.mono ?_
      rintro x wa ⟨rfl, hBa⟩
      have hrda := hrd.below hBa
      have hsla := (hsl02.kept hK (fun x hx h => by omega)).kept (Kept.of_below (F := fun _ => False) hBa) (fun x hx h => h)
      have howna := hown.kept (Kept.of_below (F := fun _ => False) hBa) (fun g hg h => h)
      have hKa : Kept (fun x => x = r) w2 wa := hK.trans (Kept.of_below (F := fun _ => False) hBa) (fun _ _ h => h.elim)
      clear hmm hown hrd
      obtain ⟨p1, c1, rfl, hc1, -, hslb⟩ := howna.sl
      rw [ib_length] at hc1 ⊢
      have hlen : (zs.take at_).length = at_ := by simp; omega
      have hconv1 : ∀ q, (convert 23 9 (.slice p1 at_ c1)).run Try.prog (wa.drewN q) = .ok (.string (bstr (zs.take at_))) (wa.drewN q) := fun q => by
        have := conv_any (w := wa.drewN q) hslb c1
        rw [hlen] at this
        exact this
      have hconv2 : ∀ q, (convert 23 9 (.slice a0 at_ cap0)).run Try.prog (wa.drewN q) = .ok (.string (bstr (zs.take at_))) (wa.drewN q) := fun q => by
        have := conv_any (w := wa.drewN q) (zs := zs.take at_) (by rw [ib_take]; exact Sl.take hsla at_) cap0
        rw [hlen] at this
        exact this
      rw [hlen]
      have m1 : (at_ : Int) ≤ (zs.length : Int) := by omega
      have m2 : (at_ : Int) ≤ (cap0 : Int) := by omega
      have hend : Below w.heap.size w wa := hZ.trans (hKa.below (by have := hZ.size; omega) (fun x hx h => by omega))
      have haa : ∀ q, Calls Try.prog 17 #[.pointer (some ⟨r, 0, none⟩)] (wa.drewN q) fun x w' => x = .returned (.int .i64 at_) ∧ wa.drewN q = w' := fun q => at_any r a0 zs.length cap0 at_ e _ hrda
      have hee : ∀ q, Calls Try.prog 16 #[.pointer (some ⟨r, 0, none⟩)] (wa.drewN q) fun x w' => x = .returned (.int .i64 e) ∧ wa.drewN q = w' := fun q => err_any r a0 zs.length cap0 at_ e _ hrda
      clear hsla hslb howna hmea
      by_cases he : e = 0
      · have d : ((e : Int) != 0) = false := by simp; omega
        have hal : at_ = zs.length := by omega
        clear he hmo
        subst hal
        go_wp2_with fail
        go_quiet (first | (go_at_call 17; exact Calls.quiet_of_same ((haa _).mono fun e w' ⟨h1, h2⟩ => ⟨h1, h2.symm⟩)) | (go_at_call 16; exact Calls.quiet_of_same ((hee _).mono fun e w' ⟨h1, h2⟩ => ⟨h1, h2.symm⟩)))
        go_wp2_with fail
        go_ret
        exact ⟨rfl, below_drewN hend _⟩
      · have d : ((e : Int) != 0) = true := by simp; omega
        clear he hmo
        go_wp2_with fail
        go_quiet (first | (go_at_call 17; exact Calls.quiet_of_same ((haa _).mono fun e w' ⟨h1, h2⟩ => ⟨h1, h2.symm⟩)) | (go_at_call 16; exact Calls.quiet_of_same ((hee _).mono fun e w' ⟨h1, h2⟩ => ⟨h1, h2.symm⟩)))
        go_wp2_with fail
        go_ret
        exact ⟨rfl, below_drewN hend _⟩

theorem wireOnes_walk (a0 : Option Addr) (cap0 : Nat) (z0 : List Int) (w : World) (w0 : IsInts .u8 w a0 z0) (y0 : z0.length ≤ cap0) :
    Calls Try.prog 5 #[.slice a0 z0.length cap0] w fun e w' => e = .returned (.bool true) ∧ Below w.heap.size w w' := by
  obtain ⟨zs, rfl, hcb, hsl0⟩ := isBytes w0
  rw [ib_length] at y0 ⊢
  exact wireOnes_any a0 cap0 zs w hcb hsl0 y0
end Go.Proofs.Ytpecjoalahgfpaa
