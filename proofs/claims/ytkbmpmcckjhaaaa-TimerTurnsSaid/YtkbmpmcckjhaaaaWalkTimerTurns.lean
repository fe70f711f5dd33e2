/- Times that are set in whatever order, and turned on the way, come alike: the walk. -/
import Derived.Test.YtkbmpmcckjhaaaaKeyF
import Derived.Test.YtkbmpmcckjhaaaaSpreadP
import Derived.BigQuiet
import Derived.Deep.RegionHeld3
namespace Go.Proofs.Ytkbmpmcckjhaaaa
open Go.RowKit Go.Kpt HeapPure
set_option linter.unusedVariables false

theorem t2_put (base a b : Nat) (l m : List (Ke × Tm)) (k : Ke) (at_ : Int) (hk : kok k) (hl : l.length + 1 ≤ 100000) (Q : Nat → Prop) (w : World) (h : T2 w base a b l m Q) :
    Calls Try.prog 8 #[.pointer (some ⟨a, 0, none⟩), kv k, .int .i64 at_] w fun e w' => e = .returned (.tuple #[]) ∧ T2 w' base a b (setAt lt l k ⟨at_, k.1, k.2⟩) m Q ∧ Below base w w' ∧ Same Q w w' := by
  refine (T2.op (R := fun e _ X l' => e = .returned (.tuple #[]) ∧ l' = setAt lt l k ⟨at_, k.1, k.2⟩) h fun Q' hX => (tset_any base a l k at_ hk hl Q' w hX).mono ?_).mono ?_
  · rintro e w' ⟨rfl, h1, h2, h3⟩
    exact ⟨fun _ => False, _, ⟨rfl, rfl⟩, h1.less (fun x hx => hx.elim id False.elim), fun x hx => hx.elim, h2, h3⟩
  · rintro e w' ⟨X, l', ⟨rfl, rfl⟩, h1, h2, h3⟩
    exact ⟨rfl, h1.less (fun x hx => .inl hx), h2, h3⟩
/-- Value number i. -/
def tf (K T : List Int) (i : Nat) : Tm := ⟨T.getD i 0, (kf K i).1, (kf K i).2⟩

set_option maxRecDepth 100000 in
set_option maxHeartbeats 6000000 in
theorem timerTurns_walk (a0 : Option Addr) (cap0 : Nat) (z0 : List Int) (a1 : Option Addr) (cap1 : Nat) (z1 : List Int) (a2 : Option Addr) (cap2 : Nat) (z2 : List Int) (a3 : Int) (w : World) (w0 : IsInts .i64 w a0 z0) (w1 : IsInts .i64 w a1 z1) (w2 : IsInts .i64 w a2 z2) (w3 : (Lit.int .i64 a3).wf = true) :
    Calls Try.prog 4 #[.slice a0 z0.length cap0, .slice a1 z1.length cap1, .slice a2 z2.length cap2, .int .i64 a3] w fun e w' => e = .returned (.bool true) ∧ Below w.heap.size w w' := by
  obtain ⟨n, hn⟩ : ∃ n, z0.length = n := ⟨_, rfl⟩
  obtain ⟨n1, hn1⟩ : ∃ n, z1.length = n := ⟨_, rfl⟩
  obtain ⟨n2, hn2⟩ : ∃ n, z2.length = n := ⟨_, rfl⟩
  rw [hn, hn1, hn2]
  have kA : Below w.heap.size w (w.alloc (.cells #[.slice a0 n cap0] 22)) := (Below.refl _ _).alloc (Nat.le_refl _) _
  have hbx : (w.alloc (.cells #[.slice a0 n cap0] 22)).heap[w.heap.size]? = some (.cells #[.slice a0 n cap0] 22 (0, 0)) := heap_alloc_new _ _
  obtain ⟨ww, hww⟩ : ∃ ww, w.alloc (.cells #[.slice a0 n cap0] 22) = ww := ⟨_, rfl⟩
  rw [hww] at kA hbx
  have HX0 : ∀ W, Below ww.heap.size ww W → W.heap[w.heap.size]? = some (.cells #[.slice a0 n cap0] 22 (0, 0)) ∧ (∀ p u, w.cell? p = some u → W.cell? p = some u) ∧ Below w.heap.size w W := fun W hW =>
    ⟨(hW.block _ (lt_of hbx)).trans hbx, fun p u hp => ((Kept.of_below (F := fun _ => False) (kA.trans (hW.mono kA.size))).cell (block_lt_of_cell hp) (fun h => h)).trans hp, kA.trans (hW.mono kA.size)⟩
  have HX := Lib.hid HX0
  clear HX0
  have hh0 := head_any ww
  clear kA hbx
  go_enter Try.func4, Try.ntmps4
  go_wp2_with fail
  clear hww
  refine hh0.mono ?_
  clear hh0
  rintro e v1 ⟨rfl, hB1⟩
  obtain ⟨q0, -, hBw⟩ := HX.out v1 hB1
  have q0 := cell_of (j := 0) q0
  simp at q0
  by_cases hm : 60 < n
  · have c1 : (60 : Int) < (n : Int) := by omega
    go_wp2_with fail
    go_ret
    exact ⟨rfl, hBw⟩
  have c1 : ¬ (60 : Int) < (n : Int) := by omega
  by_cases hm2 : n1 < n
  · have c2 : (n1 : Int) < (n : Int) := by omega
    go_wp2_with fail
    go_ret
    exact ⟨rfl, hBw⟩
  have c2 : ¬ (n1 : Int) < (n : Int) := by omega
  by_cases hm3 : 60 < n2
  · have c3 : (60 : Int) < (n2 : Int) := by omega
    go_wp2_with fail
    go_ret
    exact ⟨rfl, hBw⟩
  have c3 : ¬ (60 : Int) < (n2 : Int) := by omega
  clear hBw
  go_wp2_with fail
  go_loopw [43] (fun x wr => ∃ (i : Nat), x = .int .i64 i ∧ i ≤ n ∧ (∀ a, a < i → ∀ b, b < a → z0.getD a 0 % 256 ≠ z0.getD b 0 % 256) ∧ Below ww.heap.size ww wr) (fun x _ => n - (intOf x).toNat)
  case atStart => exact ⟨0, rfl, by omega, fun a ha => (by omega), hB1⟩
  case round =>
    clear hB1 q0
    obtain ⟨i, rfl, hi, hD, hB⟩ := hrel
    by_cases hin : i < n
    · have j1 : (i : Int) < (n : Int) := by omega
      go_wp2_with fail
      go_loopw [47] (fun x wr => ∃ (k : Nat), x = .int .i64 k ∧ k ≤ i ∧ (∀ b, b < k → z0.getD i 0 % 256 ≠ z0.getD b 0 % 256) ∧ Below ww.heap.size ww wr) (fun x _ => i - (intOf x).toNat)
      case atStart => exact ⟨0, rfl, by omega, fun a ha => (by omega), hB⟩
      case round =>
        clear hB
        obtain ⟨k, rfl, hk, hE, hB⟩ := hrel
        by_cases hki : k < i
        · have j2 : (k : Int) < (i : Int) := by omega
          have j3 : (k : Int) < (n : Int) := by omega
          obtain ⟨bk, off, rfl, hcell⟩ := w0.2.2 i (by omega)
          obtain ⟨bk', off', he, hcell2⟩ := w0.2.2 k (by omega)
          cases he
          obtain ⟨q0, kc, hBw⟩ := HX.out wr hB
          have q0 := cell_of (j := 0) q0
          simp at q0
          have q1 := kc _ _ hcell
          have q2 := kc _ _ hcell2
          have m1 := i64_and255 (z0.getD i 0)
          have m2 := i64_and255 (z0.getD k 0)
          clear hcell hcell2
          by_cases hkk : z0.getD i 0 % 256 = z0.getD k 0 % 256
          · generalize z0.getD i 0 = K at *
            generalize z0.getD k 0 = K' at *
            obtain ⟨k1, hk1⟩ : ∃ k1, K % 256 = k1 := ⟨_, rfl⟩
            rw [← hkk, hk1] at m2
            rw [hk1] at m1
            clear hkk hk1 kc
            go_wp2_with fail
            go_quiet (fail)
            go_wp2_with fail
            go_ret
            exact ⟨rfl, below_drewN hBw nq⟩
          · have m3 : ¬ z0.getD i 0 % 256 = z0.getD k 0 % 256 := hkk
            have hE' : ∀ b, b < k + 1 → z0.getD i 0 % 256 ≠ z0.getD b 0 % 256 := fun b hb => by
              by_cases e : b = k
              · subst e; exact hkk
              · exact hE b (by omega)
            clear hE hkk
            generalize z0.getD i 0 = K at *
            generalize z0.getD k 0 = K' at *
            obtain ⟨k1, hk1⟩ : ∃ k1, K % 256 = k1 := ⟨_, rfl⟩
            obtain ⟨k2, hk2⟩ : ∃ k1, K' % 256 = k1 := ⟨_, rfl⟩
            rw [hk2] at m2
            rw [hk1] at m1
            rw [hk1, hk2] at m3
            rw [hk1] at hE'
            clear kc hBw hk2
            replace hk1 := Lib.hid hk1
            go_wp2_with fail
            go_quiet (fail)
            go_wp2_with fail
            go_roundw
            case rel => exact ⟨k + 1, by go_num, by omega, fun b hb => by rw [hk1.out]; exact hE' b hb, below_drewN hB nq⟩
            case measure => simp [intOf]; omega
        · obtain rfl : k = i := by omega
          have hD' : ∀ a, a < k + 1 → ∀ b, b < a → z0.getD a 0 % 256 ≠ z0.getD b 0 % 256 := fun a ha b hb => by
            by_cases e : a = k
            · subst e; exact hE b hb
            · exact hD a (by omega) b hb
          clear hD hE
          go_wp2_with fail
          go_roundw
          case rel => exact ⟨k + 1, by go_num, by omega, hD', hB⟩
          case measure => simp [intOf]; omega
    · obtain rfl : i = n := by omega
      have inj : ∀ a b, a < i → b < i → kf z0 a = kf z0 b → a = b := fun a b ha hb h => by
        have h2 := congrArg Prod.snd h
        rcases Nat.lt_trichotomy a b with e | e | e
        · exact absurd h2.symm (hD b hb a e)
        · exact e
        · exact absurd h2 (hD a ha b e)
      clear hD
      go_wp2_with fail
      refine (tnew_any wr).mono ?_
      rintro e v2 ⟨ca, rfl, h2, -, hB2⟩
      go_wp2_with fail
      refine (tnew_any v2).mono ?_
      rintro e v3 ⟨cb, rfl, h3, -, hB3⟩
      have hT := T2.of_new h2 hB3 h3
      have hB4 : Below ww.heap.size ww v3 := (hB.trans (hB2.mono hB.size)).trans (hB3.mono (by have := hB.size; have := hB2.size; omega))
      obtain ⟨base, hbs⟩ : ∃ base, wr.heap.size = base := ⟨_, rfl⟩
      have hb0 : ww.heap.size ≤ base := by have := hB.size; omega
      rw [hbs] at hT
      clear hB hB2 hB3 h2 h3 hbs
      go_wp2_with fail
      go_loopw [68] (fun x wr => ∃ (k : Nat) (l : List (Ke × Tm)), x = .int .i64 k ∧ k ≤ n2 ∧ TurnA i 0 (kf z0) (tf z0 z1) l ∧ l.length ≤ k ∧ T2 wr base ca cb l [] (fun _ => False) ∧ Below ww.heap.size ww wr) (fun x _ => n2 - (intOf x).toNat)
      case atStart => exact ⟨0, [], rfl, by omega, ⟨HeapPure.Good.nil, fun j hj => (by omega), fun k v h => (by cases h), by simp⟩, by simp, hT, hB4⟩
      case round =>
        clear hT hB4
        obtain ⟨k, l, rfl, hk, hA, hlk, hT, hB⟩ := hrel
        by_cases hkn : k < n2
        · have j2 : (k : Int) < (n2 : Int) := by omega
          obtain ⟨b2, off2, rfl, hcell2⟩ := w2.2.2 k (by omega)
          obtain ⟨q0, kc, hBw⟩ := HX.out wr hB
          have q2 := kc _ _ hcell2
          clear hcell2
          by_cases hki : k < i
          · have j3 : (k : Int) < (i : Int) := by omega
            obtain ⟨bk, off, rfl, hcell⟩ := w0.2.2 k (by omega)
            have s1 : Calls Try.prog 11 #[.int .i64 k, .pointer (some ⟨w.heap.size, 0, none⟩)] wr _ := key_any w.heap.size bk off i cap0 k (z0.getD k 0) hki wr q0 (kc _ _ hcell)
            have hA2 := fun x => hA.first hki x (by omega)
            have hok := kf_ok z0 k
            have hl2 := fun x => len_set l (kf z0 k) x
            have hkf : (z0.getD k 0 % 2, z0.getD k 0 % 256) = kf z0 k := rfl
            rw [hkf] at s1
            generalize kf z0 k = K at *
            generalize z2.getD k 0 = T at *
            clear hkf hcell q0 kc hBw hA
            go_wp2_with fail
            refine s1.mono ?_
            clear s1
            rintro e w4 ⟨rfl, h4⟩
            have s2 := t2_put base ca cb l [] K T hok (by omega) _ w4 (hT.below h4)
            have hB4 := hB.trans (h4.mono hB.size)
            clear hT hB h4
            go_wp2_with fail
            refine s2.mono ?_
            clear s2
            rintro e w5 ⟨rfl, h5, k5, -⟩
            have hB5 := hB4.trans (k5.mono hb0)
            clear hB4 k5
            go_wp2_with fail
            go_roundw
            case rel => exact ⟨k + 1, _, by go_num, by omega, hA2 _, by have := hl2 ⟨T, K.1, K.2⟩; omega, h5, hB5⟩
            case measure => simp [intOf]; omega
          · have j3 : ¬ (k : Int) < (i : Int) := by omega
            go_wp2_with fail
            go_roundw
            case rel => exact ⟨k + 1, l, by go_num, by omega, hA, by omega, hT, hB⟩
            case measure => simp [intOf]; omega
        · obtain rfl : k = n2 := by omega
          clear w2
          obtain ⟨q0, -, -⟩ := HX.out wr hB
          have q0 := cell_of (j := 0) q0
          simp at q0
          have hAA : TurnA i 0 (kf z0) (tf z0 z1) l := hA
          go_wp2_with fail
          obtain ⟨c, hc⟩ : ∃ c : Nat, a3 % 65536 = (c : Int) := ⟨(a3 % 65536).toNat, by omega⟩
          have m3 := i64_and65535 a3
          rw [hc] at m3
          have hc2 : c < 65536 := by omega
          clear hc w3
          go_loopw [85] (fun x wr => ∃ (j : Nat) (l m : List (Ke × Tm)), x = .int .i64 j ∧ j ≤ i ∧ TurnA i j (kf z0) (tf z0 z1) l ∧ TurnB i j c (kf z0) (tf z0 z1) m ∧ T2 wr base ca cb l m (fun _ => False) ∧ Below ww.heap.size ww wr) (fun x _ => i - (intOf x).toNat)
          case atStart => exact ⟨0, l, [], rfl, by omega, hAA, ⟨HeapPure.Good.nil, fun j hj => (by omega), fun k v h => (by cases h), rfl⟩, hT, hB⟩
          case round =>
            clear hA hAA hT hB hlk q0
            obtain ⟨j, l, m, rfl, hj, hA, hM, hT, hB⟩ := hrel
            by_cases hji : j < i
            · have j2 : (j : Int) < (i : Int) := by omega
              have j3 : (j : Int) < (n1 : Int) := by omega
              obtain ⟨b1, off1, rfl, hcell1⟩ := w1.2.2 j (by omega)
              obtain ⟨bk, off, rfl, hcell⟩ := w0.2.2 j (by omega)
              have hmod : (j + c) % i < i := Nat.mod_lt _ (by omega)
              obtain ⟨r, hr⟩ : ∃ r, (j + c) % i = r := ⟨_, rfl⟩
              rw [hr] at hmod
              have hrem : Int.tmod ((j : Int) + (c : Int)) (i : Int) = (r : Int) := by
                rw [← hr]
                show Int.tmod (((j + c : Nat) : Int)) (i : Int) = _
                rw [← Int.ofNat_tmod]
              have hi0 : ¬ (i : Int) = 0 := by omega
              obtain ⟨b1', off1', he, hcellr⟩ := w1.2.2 r (by omega)
              cases he
              obtain ⟨bk', off', he, hcellk⟩ := w0.2.2 r (by omega)
              cases he
              have hA2 := hA.step inj hji
              have hM2 := hM.step inj hji
              rw [hr] at hM2
              have HS := Lib.hid (And.intro hA2 hM2)
              have hla := hA.len
              have hlm := hM.len
              have hk1 := kf_ok z0 j
              have hk2 := kf_ok z0 r
              have HK := Lib.hid (show ∀ W, Below ww.heap.size ww W → W.cell? ⟨b1, off1 + j, none⟩ = some (.int .i64 (z1.getD j 0)) ∧ W.cell? ⟨b1, off1 + r, none⟩ = some (.int .i64 (z1.getD r 0)) ∧ Calls Try.prog 11 #[.int .i64 j, .pointer (some ⟨w.heap.size, 0, none⟩)] W (fun e w' => e = .returned (kv (kf z0 j)) ∧ Below W.heap.size W w') ∧ Calls Try.prog 11 #[.int .i64 r, .pointer (some ⟨w.heap.size, 0, none⟩)] W (fun e w' => e = .returned (kv (kf z0 r)) ∧ Below W.heap.size W w') from fun W hW => by
                obtain ⟨q0, kc, -⟩ := HX.out W hW
                exact ⟨kc _ _ hcell1, kc _ _ hcellr, key_any w.heap.size bk off i cap0 j (z0.getD j 0) hji W q0 (kc _ _ hcell), key_any w.heap.size bk off i cap0 r (z0.getD r 0) hmod W q0 (kc _ _ hcellk)⟩)
              have htj : tf z0 z1 j = ⟨z1.getD j 0, (kf z0 j).1, (kf z0 j).2⟩ := rfl
              have htr : tf z0 z1 r = ⟨z1.getD r 0, (kf z0 r).1, (kf z0 r).2⟩ := rfl
              rw [htj, htr] at HS
              clear hA hM hA2 hM2 hcell1 hcellr hcell hcellk htj htr
              generalize kf z0 j = K1 at *
              generalize kf z0 r = K2 at *
              generalize z1.getD j 0 = T1 at *
              generalize z1.getD r 0 = T2v at *
              have hls := len_set l K1 ⟨T1, K1.1, K1.2⟩
              have HP := Lib.hid (show ∀ W, T2 W base ca cb l m (fun _ => False) → Calls Try.prog 8 #[.pointer (some ⟨ca, 0, none⟩), .agg #[.int .i64 K1.1, .int .i64 K1.2], .int .i64 T1] W _ from fun W hW => t2_put base ca cb l m K1 T1 hk1 (by omega) _ W hW)
              have HQ := Lib.hid (show ∀ W, T2 W base cb ca m (setAt lt l K1 ⟨T1, K1.1, K1.2⟩) (fun _ => False) → Calls Try.prog 8 #[.pointer (some ⟨cb, 0, none⟩), .agg #[.int .i64 K2.1, .int .i64 K2.2], .int .i64 T2v] W _ from fun W hW => t2_put base cb ca m (setAt lt l K1 ⟨T1, K1.1, K1.2⟩) K2 T2v hk2 (by omega) _ W hW)
              have HC := Lib.hid (show ∀ W, Below ww.heap.size ww W → W.cell? ⟨b1, off1 + j, none⟩ = some (.int .i64 T1) ∧ Below ww.heap.size ww W from fun W hW => ⟨(HK.out W hW).1, hW⟩)
              have HE := Lib.hid (show ∀ W, Below ww.heap.size ww W → W.cell? ⟨b1, off1 + r, none⟩ = some (.int .i64 T2v) ∧ Below ww.heap.size ww W from fun W hW => ⟨(HK.out W hW).2.1, hW⟩)
              obtain ⟨-, -, s1, -⟩ := HK.out wr.drew hB.drew
              have hTd := hT.below (Below.drew (Below.refl _ _))
              have hBd := hB.drew
              clear hT hB
              go_wp2_with fail
              go_region_held3 (fun W => W.cell? ⟨b1, off1 + j, none⟩ = some (.int .i64 T1) ∧ Below ww.heap.size ww W)
                (first | exact HC.out _ hBd | exact HC.out _ hB4 | exact HC.out _ hB5)
                (first
                | (go_at_call 11; refine s1.mono ?_; rintro e w4 ⟨rfl, h4⟩
                   have hT4 := hTd.below h4
                   have hB4 := hBd.trans (h4.mono hBd.size))
                | (go_at_call 8; refine (HP.out _ hT4).mono ?_; rintro e w5 ⟨rfl, h5, k5, -⟩
                   have hB5 : Below ww.heap.size ww w5 := hB4.trans (k5.mono hb0)))
              clear s1 hTd hBd hT4 hB4 k5
              obtain ⟨-, -, -, s1⟩ := HK.out w5.drew hB5.drew
              have hTd := h5.symm.below (Below.drew (Below.refl _ _))
              have hBd := hB5.drew
              clear h5 hB5
              go_wp2_with fail
              have hj3 : (r : Int) < (i : Int) := by omega
              have hj4 : (r : Int) < (n1 : Int) := by omega
              go_region_held3 (fun W => W.cell? ⟨b1, off1 + r, none⟩ = some (.int .i64 T2v) ∧ Below ww.heap.size ww W)
                (first | exact HE.out _ hBd | exact HE.out _ hB4 | exact HE.out _ hB6)
                (first
                | (go_at_call 11; refine s1.mono ?_; rintro e w4 ⟨rfl, h4⟩
                   have hT4 := hTd.below h4
                   have hB4 := hBd.trans (h4.mono hBd.size))
                | (go_at_call 8; refine (HQ.out _ hT4).mono ?_; rintro e w6 ⟨rfl, h6, k6, -⟩
                   have hB6 : Below ww.heap.size ww w6 := hB4.trans (k6.mono hb0)))
              clear s1 hTd hBd hT4 hB4 k6
              have hT6 := h6.symm
              obtain ⟨hA6, hM6⟩ := HS.out
              clear h6 HS HK HP HQ HC HE
              go_wp2_with fail
              go_roundw
              case rel => exact ⟨j + 1, _, _, by go_num, by omega, hA6, hM6, hT6, hB6⟩
              case measure => simp [intOf]; omega
            · obtain rfl : j = i := by omega
              have hS : Turns j l m := turns_start hA hM (fun a ha => ⟨rfl, rfl⟩) (fun a ha => (bounds_i64 (wf_get w1.2.1 (by decide) a)).2)
              clear hA hM w0 w1 inj m3 hc2
              obtain ⟨q0, -, hBw⟩ := HX.out wr hB
              have hw0 : w.heap.size ≤ base := Nat.le_trans (HX.out ww (Below.refl _ _)).2.2.size hb0
              clear HX
              go_wp2_with fail
              go_loopw [19] (fun x wr => ∃ (r : Nat) (l m : List (Ke × Tm)), x = .int .i64 r ∧ r ≤ j ∧ Turns (j - r) l m ∧ T2 wr base ca cb l m (fun _ => False) ∧ Below ww.heap.size ww wr ∧ Below w.heap.size w wr) (fun x _ => j - (intOf x).toNat)
              case atStart => exact ⟨0, l, m, rfl, by omega, hS, hT, hB, hBw⟩
              case round =>
                clear hS hT hB hBw q0
                obtain ⟨r, l, m, rfl, hr, hS, hT, hB, hBw⟩ := hrel
                by_cases hrj : r < j
                · have j2 : (r : Int) < (j : Int) := by omega
                  rw [show j - r = (j - (r + 1)) + 1 by omega] at hS
                  obtain ⟨p1, p2, p3, p4, p5, hS2⟩ := hS.step
                  have s1 := t2_next base ca cb l m 9223372036854775807 p1 p3 _ wr hT
                  have s2 := fun W Q hW => t2_next base cb ca m (drop lt l (kk l 0)) 9223372036854775807 p2 p4 Q W hW
                  rw [p5] at s2 hS2
                  generalize drop lt l (kk l 0) = l' at *
                  generalize drop lt m (kk l 0) = m' at *
                  generalize kk l 0 = K at *
                  clear hS p1 p2 p3 p4 p5
                  go_wp2_with fail
                  refine s1.mono ?_
                  clear s1
                  rintro e w4 ⟨rfl, h4, k4, -⟩
                  have hB4 := hB.trans (k4.mono hb0)
                  have hBw4 := hBw.trans (k4.mono hw0)
                  have kE : Below w4.heap.size w4 (w4.alloc (.cells #[.int .i64 K.1, .int .i64 K.2] 29)) := (Below.refl _ _).alloc (Nat.le_refl _) _
                  have hK : Kb (w4.alloc (.cells #[.int .i64 K.1, .int .i64 K.2] 29)) w4.heap.size K := heap_alloc_new _ _
                  have h5 : T2 (w4.alloc (.cells #[.int .i64 K.1, .int .i64 K.2] 29)) base ca cb l' m (fun x => x = w4.heap.size) := h4.turn (Kept.of_below kE) (fun x hx => .inr ⟨by omega, by rw [World.size_alloc]; omega⟩)
                  have hB5 := hB4.trans (kE.mono hB4.size)
                  have hBw5 := hBw4.trans (kE.mono hBw4.size)
                  obtain ⟨q, hq⟩ : ∃ q, w4.heap.size = q := ⟨_, rfl⟩
                  obtain ⟨w5, hw5⟩ : ∃ w5, w4.alloc (.cells #[.int .i64 K.1, .int .i64 K.2] 29) = w5 := ⟨_, rfl⟩
                  rw [hw5, hq] at hK h5
                  rw [hw5] at hB5 hBw5
                  have s2 := s2 w5 _ h5.symm
                  clear hT hB hBw h4 k4 hB4 hBw4 kE h5
                  go_wp2_with fail
                  refine s2.mono ?_
                  clear s2
                  rintro e w6 ⟨rfl, h6, k6, q6⟩
                  have hK6 : Kb w6 q K := (q6 q rfl).trans hK
                  have hB6 := hB5.trans (k6.mono hb0)
                  have hBw6 := hBw5.trans (k6.mono hw0)
                  have kE : Below w6.heap.size w6 (w6.alloc (.cells #[.int .i64 K.1, .int .i64 K.2] 29)) := (Below.refl _ _).alloc (Nat.le_refl _) _
                  have hN : Kb (w6.alloc (.cells #[.int .i64 K.1, .int .i64 K.2] 29)) w6.heap.size K := heap_alloc_new _ _
                  have h7 := (h6.symm.below kE).less (Q' := fun _ => False) (fun x hx => hx.elim)
                  have hK7 := hK6.kept (Kept.of_below (F := fun _ => False) kE) (fun h => h)
                  have hB7 := hB6.trans (kE.mono hB6.size)
                  have hBw7 := hBw6.trans (kE.mono hBw6.size)
                  obtain ⟨q', hq'⟩ : ∃ q, w6.heap.size = q := ⟨_, rfl⟩
                  obtain ⟨w7, hw7⟩ : ∃ w7, w6.alloc (.cells #[.int .i64 K.1, .int .i64 K.2] 29) = w7 := ⟨_, rfl⟩
                  rw [hw7, hq'] at hN
                  rw [hw7] at hK7 h7 hB7 hBw7
                  obtain ⟨x0, x1⟩ := hK7.cells
                  obtain ⟨y0, y1⟩ := hN.cells
                  have hk := neq_ke K K
                  simp only [decide_true, Bool.not_true] at hk
                  have hg := guard_ke
                  clear hK hB5 hBw5 h6 k6 q6 hK6 hB6 hBw6 kE hK7 hN hq hw5
                  go_wp2_with fail
                  exact ⟨⟨r + 1, l', m', by go_num, by omega, hS2, h7, hB7, hBw7⟩, by simp [intOf]; omega⟩
                · obtain rfl : r = j := by omega
                  have hl0 : l.length = 0 := by rw [hS.ll]; omega
                  have hm0 : m.length = 0 := by rw [hS.lm]; omega
                  have s1 := tlen_any base ca l _ wr hT.left
                  have s2 := tlen_any base cb m _ wr hT.symm.left
                  rw [hl0] at s1
                  rw [hm0] at s2
                  have s1 : Calls Try.prog 10 #[.pointer (some ⟨ca, 0, none⟩)] wr fun e w' => e = .returned (.int .i64 0) ∧ wr = w' := s1
                  have s2 : Calls Try.prog 10 #[.pointer (some ⟨cb, 0, none⟩)] wr fun e w' => e = .returned (.int .i64 0) ∧ wr = w' := s2
                  clear hT hS hl0 hm0
                  go_wp2_with fail
                  refine s1.mono ?_
                  rintro e w4 ⟨rfl, rfl⟩
                  go_wp2_with fail
                  refine s2.mono ?_
                  rintro e w4 ⟨rfl, rfl⟩
                  go_wp2_with fail
                  go_ret
                  exact ⟨rfl, hBw⟩
end Go.Proofs.Ytkbmpmcckjhaaaa
