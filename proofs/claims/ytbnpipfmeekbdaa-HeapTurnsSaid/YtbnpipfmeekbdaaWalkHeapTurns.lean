/- Keys with values, set in whatever order, and turned on the way: the same is least in the end: the walk. -/
import Derived.Test.YtbnpipfmeekbdaaTurns
import Derived.Test.YtbnpipfmeekbdaaArgs
import Derived.Test.YtbnpipfmeekbdaaBits
namespace Go.Proofs.Ytbnpipfmeekbdaa
open Go.RowKit Go.Kpt HeapPure
set_option linter.unusedVariables false
attribute [local go_sem] i64_and65535

theorem T2.wf {w : World} {base a b : Nat} {l m : List (Int × Int)} (h : T2 w base a b l m) (h0 : 0 < l.length) : (Lit.int .i64 (kk l 0)).wf = true := by
  obtain ⟨v1, mb1, v2, mb2, h1, -⟩ := h
  exact h1.wf _ (List.mem_of_getElem? (getElem_of h0))
theorem set_le (l : List (Int × Int)) (k v : Int) : (setAt lt l k v).length ≤ l.length + 1 := by rw [setAt_length]; split <;> omega
theorem drop_le (l : List (Int × Int)) (k : Int) : (drop lt l k).length ≤ l.length := by rw [drop_length]; split <;> omega

/-- The turned order so far. -/
structure Turned (z : List Int) (A i : Nat) (m : List (Int × Int)) : Prop where
  good : HGood m
  len : m.length ≤ i
  get : ∀ k v, HeapPure.get m k = some v ↔ ∃ i', i' < i ∧ k = (((i' + A) % z.length : Nat) : Int) ∧ v = z.getD ((i' + A) % z.length) 0
theorem Turned.start (z : List Int) (A : Nat) : Turned z A 0 [] := ⟨HeapPure.Good.nil, Nat.le_refl _, fun k v => by rw [get_nil]; constructor; (intro h; cases h); (rintro ⟨i', h, -⟩; omega)⟩
theorem Turned.next {z : List Int} {A i : Nat} {m : List (Int × Int)} (h : Turned z A i m) (J : Nat) (hJ : J = (i + A) % z.length) : Turned z A (i + 1) (setAt lt m J (z.getD J 0)) := by
  refine ⟨setAt_good ord_lt h.good _ _, Nat.le_trans (set_le _ _ _) (by have := h.len; omega), fun k v => ?_⟩
  rw [setAt_get ord_lt h.good]
  by_cases e : k = (J : Int)
  · rw [if_pos e]
    constructor
    · intro hv; exact ⟨i, by omega, by rw [← hJ]; exact e, by rw [← hJ]; exact (Option.some.inj hv).symm⟩
    · rintro ⟨i', -, h2, h3⟩
      have : (i' + A) % z.length = J := by rw [e] at h2; omega
      rw [h3, this]
  · rw [if_neg e, h.get]
    constructor
    · rintro ⟨i', h1, h2⟩; exact ⟨i', by omega, h2⟩
    · rintro ⟨i', h1, h2, h3⟩
      refine ⟨i', ?_, h2, h3⟩
      rcases Nat.lt_or_ge i' i with h4 | h4
      · exact h4
      · obtain rfl : i' = i := by omega
        rw [← hJ] at h2
        exact absurd h2 e
theorem Turned.all {z : List Int} {A : Nat} {m : List (Int × Int)} (h : Turned z A z.length m) (hz : 0 < z.length) (k : Int) : HeapPure.get m k = if 0 ≤ k ∧ k < (z.length : Int) then some (z.getD k.toNat 0) else none := by
  by_cases hk : 0 ≤ k ∧ k < (z.length : Int)
  · rw [if_pos hk]
    obtain ⟨i, hi, he⟩ := turn_all z.length A k.toNat hz (by omega)
    exact (h.get k _).2 ⟨i, hi, by rw [he]; omega, by rw [he]⟩
  · rw [if_neg hk]
    cases e : HeapPure.get m k with
    | none => rfl
    | some v =>
      obtain ⟨i, hi, h1, -⟩ := (h.get k v).1 e
      have := Nat.mod_lt (i + A) hz
      omega

set_option maxRecDepth 100000 in
set_option maxHeartbeats 16000000 in
theorem heapTurns_walk (a0 : Option Addr) (cap0 : Nat) (z : List Int) (a1 : Option Addr) (cap1 : Nat) (y : List Int) (at_ : Int) (w : World) (w0 : IsInts .i64 w a0 z) (w1 : IsInts .i64 w a1 y) (_ : (Lit.int .i64 at_).wf = true) :
    Calls Try.prog 4 #[.slice a0 z.length cap0, .slice a1 y.length cap1, .int .i64 at_] w fun e w' => e = .returned (.bool true) ∧ Below w.heap.size w w' := by
  go_enter Try.func4, Try.ntmps4
  go_wp2_with fail
  refine (head_any _).mono ?_
  rintro e v0 ⟨rfl, hB0⟩
  by_cases hn0 : z.length = 0
  · have g0 : ((z.length : Int) == 0) = true := by rw [hn0]; rfl
    go_wp2_with fail
    go_ret
    exact ⟨rfl, hB0⟩
  have g0 : ((z.length : Int) == 0) = false := beq_eq_false_iff_ne.2 (by omega)
  by_cases hn1 : 60 < z.length
  · have g1 : (60 : Int) < (z.length : Int) := by omega
    go_wp2_with fail
    go_ret
    exact ⟨rfl, hB0⟩
  have g1 : ¬ (60 : Int) < (z.length : Int) := by omega
  by_cases hn2 : 60 < y.length
  · have g2 : (60 : Int) < (y.length : Int) := by omega
    go_wp2_with fail
    go_ret
    exact ⟨rfl, hB0⟩
  have g2 : ¬ (60 : Int) < (y.length : Int) := by omega
  go_wp2_with fail
  refine (newB v0).mono ?_
  rintro e v1 ⟨a, rfl, h1, hBn⟩
  obtain ⟨base, hbase⟩ : ∃ base, v0.heap.size = base := ⟨_, rfl⟩
  rw [hbase] at h1
  have hwb : w.heap.size ≤ base := by have := hB0.size; omega
  have hB1 : Below w.heap.size w v1 := hB0.trans (hBn.mono hB0.size)
  clear hBn hB0 hbase
  go_wp2_with fail
  refine (newT base a [] v1 h1).mono ?_
  rintro e v2 ⟨b, rfl, h2, hBn⟩
  have hB2 := hB1.trans (hBn.mono hwb)
  clear h1 hB1 hBn
  go_wp2_with fail
  go_loopw [41] (fun x wr => ∃ (i : Nat) (l : List (Int × Int)), x = .int .i64 i ∧ i ≤ y.length ∧ HGood l ∧ l.length ≤ i ∧ (∀ k, HeapPure.get l k = if 0 ≤ k ∧ k < (i : Int) then some (y.getD k.toNat 0) else none) ∧ T2 wr base a b l [] ∧ Below w.heap.size w wr) (fun x _ => y.length - (intOf x).toNat)
  case atStart => exact ⟨0, [], rfl, by omega, HeapPure.Good.nil, Nat.le_refl _, fun k => by rw [get_nil, if_neg (by omega)], h2, hB2⟩
  case round =>
    clear h2 hB2
    obtain ⟨i, l, rfl, hi, hg, hll, hget, h, hB⟩ := hrel
    by_cases hlt : i < y.length
    · obtain ⟨c, off, rfl, hcell⟩ := w1.2.2 i hlt
      have hcell := arg_cell hB hcell
      have j1 : (i : Int) < (y.length : Int) := by omega
      have hs := setT base a b l [] i (y.getD i 0) (by exact WalkArith.wf_i64 (by omega)) (by omega) wr h
      have hnx : HGood (setAt lt l i (y.getD i 0)) ∧ (setAt lt l i (y.getD i 0)).length ≤ i + 1 ∧ ∀ k, HeapPure.get (setAt lt l i (y.getD i 0)) k = if 0 ≤ k ∧ k < ((i + 1 : Nat) : Int) then some (y.getD k.toNat 0) else none := by
        refine ⟨setAt_good ord_lt hg _ _, Nat.le_trans (set_le _ _ _) (by omega), fun k => ?_⟩
        rw [setAt_get ord_lt hg]
        by_cases e : k = (i : Int)
        · rw [if_pos e, if_pos (by omega), e]; rfl
        · rw [if_neg e, hget]
          by_cases h2 : 0 ≤ k ∧ k < (i : Int)
          · rw [if_pos h2, if_pos (by omega)]
          · rw [if_neg h2, if_neg (by omega)]
      have HNX := Lib.hid hnx
      clear hnx hget hg
      generalize y.getD i 0 = n at *
      go_wp2_with fail
      refine hs.mono ?_
      rintro e w2 ⟨rfl, h2, k2⟩
      have hB2 := hB.trans (k2.mono hwb)
      clear hs h hB k2 hcell
      go_wp2_with fail
      go_roundw
      case rel => exact ⟨i + 1, _, by go_num, by omega, HNX.out.1, HNX.out.2.1, HNX.out.2.2, h2, hB2⟩
      case measure => simp [intOf]; omega
    · have hiy : i = y.length := by omega
      have j1 : ¬ (i : Int) < (y.length : Int) := by omega
      rw [hiy] at hget
      clear hiy
      have HG := Lib.hid hget
      clear hget
      go_wp2_with fail
      go_loopw [11] (fun x wr => ∃ (i : Nat) (l : List (Int × Int)), x = .int .i64 i ∧ z.length ≤ i ∧ (i ≤ y.length ∨ i = z.length) ∧ HGood l ∧ l.length ≤ 60 ∧ (∀ k, HeapPure.get l k = if 0 ≤ k ∧ k < (y.length : Int) ∧ ¬ ((z.length : Int) ≤ k ∧ k < (i : Int)) then some (y.getD k.toNat 0) else none) ∧ T2 wr base a b l [] ∧ Below w.heap.size w wr) (fun x _ => y.length - (intOf x).toNat)
      case atStart =>
        refine ⟨z.length, l, rfl, Nat.le_refl _, .inr rfl, hg, by omega, fun k => ?_, h, hB⟩
        rw [HG.out]
        by_cases h2 : 0 ≤ k ∧ k < (y.length : Int)
        · rw [if_pos h2, if_pos (by omega)]
        · rw [if_neg h2, if_neg (by omega)]
      case round =>
        clear h hB hg hll HG
        obtain ⟨i, l, rfl, hzi, hiy, hg, hll, hget, h, hB⟩ := hrel
        have hib : i ≤ 60 := by omega
        by_cases hlt : i < y.length
        · have j1 : (i : Int) < (y.length : Int) := by omega
          have hs := dropT base a b l [] i (by exact WalkArith.wf_i64 (by omega)) wr h
          have hnx : HGood (drop lt l i) ∧ (drop lt l i).length ≤ 60 ∧ ∀ k, HeapPure.get (drop lt l i) k = if 0 ≤ k ∧ k < (y.length : Int) ∧ ¬ ((z.length : Int) ≤ k ∧ k < ((i + 1 : Nat) : Int)) then some (y.getD k.toNat 0) else none := by
            refine ⟨drop_good ord_lt hg _, Nat.le_trans (drop_le _ _) hll, fun k => ?_⟩
            rw [drop_get ord_lt hg]
            by_cases e : k = (i : Int)
            · rw [if_pos e, if_neg (by omega)]
            · rw [if_neg e, hget]
              by_cases h2 : 0 ≤ k ∧ k < (y.length : Int) ∧ ¬ ((z.length : Int) ≤ k ∧ k < (i : Int))
              · rw [if_pos h2, if_pos (by omega)]
              · rw [if_neg h2, if_neg (by omega)]
          generalize (HeapPure.get l (i : Int)).isSome = t at *
          have HNX := Lib.hid hnx
          clear hnx hget hg
          go_wp2_with fail
          refine hs.mono ?_
          rintro e w2 ⟨rfl, h2, k2⟩
          have hB2 := hB.trans (k2.mono hwb)
          clear hs h hB k2
          go_wp2_with fail
          go_roundw
          case rel => exact ⟨i + 1, _, by go_num, by omega, by omega, HNX.out.1, HNX.out.2.1, HNX.out.2.2, h2, hB2⟩
          case measure => simp [intOf]; omega
        · have j1 : ¬ (i : Int) < (y.length : Int) := by omega
          have hget : ∀ k, HeapPure.get l k = if 0 ≤ k ∧ k < (y.length : Int) ∧ k < (z.length : Int) then some (y.getD k.toNat 0) else none := fun k => by
            rw [hget]
            by_cases h2 : 0 ≤ k ∧ k < (y.length : Int) ∧ k < (z.length : Int)
            · rw [if_pos h2, if_pos (by omega)]
            · rw [if_neg h2, if_neg (by omega)]
          have HG := Lib.hid hget
          clear hget
          obtain ⟨A, hA⟩ : ∃ A : Nat, at_ % 65536 = (A : Int) := ⟨(at_ % 65536).toNat, by omega⟩
          have hAb : A < 65536 := by omega
          go_wp2_with fail
          go_loopw [66] (fun x wr => ∃ (i : Nat) (l m : List (Int × Int)), x = .int .i64 i ∧ i ≤ z.length ∧ HGood l ∧ l.length ≤ 60 + i ∧ (∀ k, HeapPure.get l k = if 0 ≤ k ∧ k < (i : Int) then some (z.getD k.toNat 0) else if 0 ≤ k ∧ k < (y.length : Int) ∧ k < (z.length : Int) then some (y.getD k.toNat 0) else none) ∧ Turned z A i m ∧ T2 wr base a b l m ∧ Below w.heap.size w wr) (fun x _ => z.length - (intOf x).toNat)
          case atStart => exact ⟨0, l, [], rfl, by omega, hg, by omega, fun k => by rw [HG.out, if_neg (by omega : ¬ (0 ≤ k ∧ k < ((0 : Nat) : Int)))], Turned.start z A, h, hB⟩
          case round =>
            clear h hB hg hll HG
            obtain ⟨i, l, m, rfl, hi, hg, hll, hget, ht, h, hB⟩ := hrel
            by_cases hlt : i < z.length
            · obtain ⟨J, hJ⟩ : ∃ J, (i + A) % z.length = J := ⟨_, rfl⟩
              have hJz : J < z.length := by rw [← hJ]; exact Nat.mod_lt _ (by omega)
              have hJe : ((i : Int) + (A : Int)).tmod (z.length : Int) = (J : Int) := by
                rw [Int.tmod_eq_emod_of_nonneg (by omega), ← hJ]
                rw [Int.natCast_emod, Int.natCast_add]
              obtain ⟨c, off, ha0, hcell⟩ := w0.2.2 i hlt
              obtain ⟨c', off', ha0', hcell'⟩ := w0.2.2 J hJz
              rw [ha0] at ha0'
              cases ha0'
              subst ha0
              have hcell := arg_cell hB hcell
              have j1 : (i : Int) < (z.length : Int) := by omega
              have j2 : (J : Int) < (z.length : Int) := by omega
              have hs := setT base a b l m i (z.getD i 0) (by exact WalkArith.wf_i64 (by omega)) (by omega) wr h
              have hml := ht.len
              have htn := ht.next J hJ.symm
              have hs2 := fun W (l' : List (Int × Int)) (hW : T2 W base a b l' m) => setT base b a m l' J (z.getD J 0) (by exact WalkArith.wf_i64 (by omega)) (by omega) W hW.symm
              have hnx : HGood (setAt lt l i (z.getD i 0)) ∧ (setAt lt l i (z.getD i 0)).length ≤ 60 + (i + 1) ∧ ∀ k, HeapPure.get (setAt lt l i (z.getD i 0)) k = if 0 ≤ k ∧ k < ((i + 1 : Nat) : Int) then some (z.getD k.toNat 0) else if 0 ≤ k ∧ k < (y.length : Int) ∧ k < (z.length : Int) then some (y.getD k.toNat 0) else none := by
                refine ⟨setAt_good ord_lt hg _ _, Nat.le_trans (set_le _ _ _) (by omega), fun k => ?_⟩
                rw [setAt_get ord_lt hg]
                by_cases e : k = (i : Int)
                · rw [if_pos e, if_pos (by omega), e]; rfl
                · rw [if_neg e, hget]
                  by_cases h2 : 0 ≤ k ∧ k < (i : Int)
                  · rw [if_pos h2, if_pos (by omega)]
                  · rw [if_neg h2, if_neg (by omega : ¬ (0 ≤ k ∧ k < ((i + 1 : Nat) : Int)))]
              have HNX := Lib.hid hnx
              have HT := Lib.hid htn
              clear hnx hget hg ht htn hJ
              generalize z.getD i 0 = n1 at *
              generalize z.getD J 0 = n2 at *
              go_wp2_with fail
              refine hs.mono ?_
              rintro e w2 ⟨rfl, h2, k2⟩
              have hB2 := hB.trans (k2.mono hwb)
              have hcell2 := arg_cell hB2 hcell'
              clear hs h hB k2 hcell
              go_wp2_with fail
              refine (hs2 _ _ h2).mono ?_
              rintro e w3 ⟨rfl, h3, k3⟩
              have hB3 := hB2.trans (k3.mono hwb)
              clear hs2 h2 hB2 k3 hcell2 hcell'
              go_wp2_with fail
              go_roundw
              case rel => exact ⟨i + 1, _, _, by go_num, by omega, HNX.out.1, HNX.out.2.1, HNX.out.2.2, HT.out, h3.symm, hB3⟩
              case measure => simp [intOf]; omega
            · obtain rfl : i = z.length := by omega
              have hgm := ht.all (by omega)
              have hgl : ∀ k, HeapPure.get l k = if 0 ≤ k ∧ k < (z.length : Int) then some (z.getD k.toNat 0) else none := fun k => by
                rw [hget]
                by_cases h2 : 0 ≤ k ∧ k < (z.length : Int)
                · rw [if_pos h2, if_pos h2]
                · rw [if_neg h2, if_neg h2, if_neg (by omega)]
              have hal : Alikev l m := (perm_get hg.inj ht.good.inj fun k => by rw [hgl, hgm]).map Prod.snd
              have hl1 := len_dom hg.inj z.length (fun i => z.getD i 0) hgl
              have hl2 := len_dom ht.good.inj z.length (fun i => z.getD i 0) hgm
              have hgm' := ht.good
              clear hgm hgl hget ht hll
              have HA := Lib.hid (And.intro hg (And.intro hgm' (And.intro hal (And.intro hl1 hl2))))
              clear hg hgm' hal hl1 hl2
              go_wp2_with fail
              go_loopw [15] (fun x wr => ∃ (i : Nat) (l m : List (Int × Int)), x = .int .i64 i ∧ i ≤ z.length ∧ HGood l ∧ HGood m ∧ Alikev l m ∧ l.length = z.length - i ∧ m.length = z.length - i ∧ T2 wr base a b l m ∧ Below w.heap.size w wr) (fun x _ => z.length - (intOf x).toNat)
              case atStart => exact ⟨0, l, m, rfl, by omega, HA.out.1, HA.out.2.1, HA.out.2.2.1, by rw [HA.out.2.2.2.1]; rfl, by rw [HA.out.2.2.2.2]; rfl, h, hB⟩
              case round =>
                clear h hB HA
                obtain ⟨i, l, m, rfl, hi, hgl, hgm, hal, hl, hm, h, hB⟩ := hrel
                by_cases hlt : i < z.length
                · have j1 : (i : Int) < (z.length : Int) := by omega
                  have hl0 : 0 < l.length := by omega
                  have hm0 : 0 < m.length := by omega
                  have hv := alike_min hgl hgm hal hl0 hm0
                  have hle : ((l.length : Nat) : Int) = (z.length : Int) - (i : Int) := by omega
                  have hme : ((m.length : Nat) : Int) = (z.length : Int) - (i : Int) := by omega
                  have c1 := minT base a b l m hl0 wr h
                  have c2 := fun W (hW : T2 W base a b l m) => minT base b a m l hm0 W hW.symm
                  have c3 := fun W (hW : T2 W base a b l m) => lenT base a b l m W hW
                  have c4 := fun W (hW : T2 W base a b l m) => lenT base b a m l W hW.symm
                  have c5 := fun W (hW : T2 W base a b l m) => dropT base a b l m (kk l 0) (hW.wf hl0) W hW
                  have c6 := fun W (l' : List (Int × Int)) (hW : T2 W base a b l' m) => dropT base b a m l' (kk m 0) (hW.symm.wf hm0) W hW.symm
                  rw [hle] at c3
                  rw [hme] at c4
                  rw [← hv] at c2
                  have hnx : HGood (drop lt l (kk l 0)) ∧ HGood (drop lt m (kk m 0)) ∧ Alikev (drop lt l (kk l 0)) (drop lt m (kk m 0)) ∧ (drop lt l (kk l 0)).length = z.length - (i + 1) ∧ (drop lt m (kk m 0)).length = z.length - (i + 1) :=
                    ⟨drop_good ord_lt hgl _, drop_good ord_lt hgm _, alike_drop hgl hgm hal hl0 hm0, by rw [drop_len hgl hl0]; omega, by rw [drop_len hgm hm0]; omega⟩
                  have HNX := Lib.hid hnx
                  generalize (HeapPure.get l (kk l 0)).isSome = t1 at *
                  generalize (HeapPure.get m (kk m 0)).isSome = t2 at *
                  generalize vv l 0 = V at *
                  clear hnx hgl hgm hal hle hme hv hl hm hl0 hm0
                  go_wp2_with fail
                  refine c1.mono ?_
                  rintro e w2 ⟨rfl, h2, k2⟩
                  have hB2 := hB.trans (k2.mono hwb)
                  clear c1 h hB k2
                  go_wp2_with fail
                  refine (c2 _ h2).mono ?_
                  rintro e w3 ⟨rfl, h3, k3⟩
                  have h3 := h3.symm
                  have hB3 := hB2.trans (k3.mono hwb)
                  clear c2 h2 hB2 k3
                  go_wp2_with fail
                  refine (c3 _ h3).mono ?_
                  rintro e w4 ⟨rfl, rfl⟩
                  clear c3
                  go_wp2_with fail
                  refine (c4 _ h3).mono ?_
                  rintro e w4 ⟨rfl, rfl⟩
                  clear c4
                  go_wp2_with fail
                  refine (c5 _ h3).mono ?_
                  rintro e w5 ⟨rfl, h5, k5⟩
                  have hB5 := hB3.trans (k5.mono hwb)
                  clear c5 h3 hB3 k5
                  go_wp2_with fail
                  refine (c6 _ _ h5).mono ?_
                  rintro e w6 ⟨rfl, h6, k6⟩
                  have hB6 := hB5.trans (k6.mono hwb)
                  clear c6 h5 hB5 k6
                  go_wp2_with fail
                  go_roundw
                  case rel => exact ⟨i + 1, _, _, by go_num, by omega, HNX.out.1, HNX.out.2.1, HNX.out.2.2.1, HNX.out.2.2.2.1, HNX.out.2.2.2.2, h6.symm, hB6⟩
                  case measure => simp [intOf]; omega
                · have hle : ((l.length : Nat) : Int) = 0 := by omega
                  have hme : ((m.length : Nat) : Int) = 0 := by omega
                  have j1 : ¬ (i : Int) < (z.length : Int) := by omega
                  have c3 := lenT base a b l m wr h
                  have c4 := lenT base b a m l wr h.symm
                  rw [hle] at c3
                  rw [hme] at c4
                  clear hgl hgm hal hl hm hle hme
                  go_wp2_with fail
                  refine c3.mono ?_
                  rintro e w4 ⟨rfl, rfl⟩
                  clear c3
                  go_wp2_with fail
                  refine c4.mono ?_
                  rintro e w4 ⟨rfl, rfl⟩
                  go_wp2_with fail
                  go_ret
                  exact ⟨rfl, hB⟩
end Go.Proofs.Ytbnpipfmeekbdaa
