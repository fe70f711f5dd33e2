/- Two heaps side by side: what is done to one leaves the other. -/
import Derived.Test.YtbnpipfmeekbdaaHead
namespace Go.Proofs.Ytbnpipfmeekbdaa
open Go.RowKit Go.Kpt HeapPure
set_option linter.unusedVariables false

theorem set_any (base hb : Nat) (v : Value) (mb : Nat) (l : List (Int × Int)) (k x : Int) (hk : (Lit.int .i64 k).wf = true) (hl : l.length + 1 ≤ 100000) (w : World) (hbase : base ≤ w.heap.size) (h : Hp w base hb fv9 v mb l) :
    Calls Try.prog 10 #[.pointer (some ⟨hb, 0, none⟩), .int .i64 k, .int .i64 x] w fun e w' => e = .returned (.tuple #[]) ∧ ∃ v', Hp w' base hb fv9 v' mb (setAt lt l k x) ∧ Kept (fun y => y = hb ∨ own mb v y) w w' ∧ Moved w v v' := by
  cases e : idx l k with
  | none => exact set_new base hb v mb l k x hk hl e w hbase h
  | some i => exact (set_there base hb v mb l k x hk i e w h).mono fun e w' ⟨h3, h4, h5⟩ => ⟨h3, v, h4, h5, Moved.refl _ _⟩
theorem drop_any (base hb : Nat) (v : Value) (mb : Nat) (l : List (Int × Int)) (k : Int) (hk : (Lit.int .i64 k).wf = true) (w : World) (h : Hp w base hb fv9 v mb l) :
    Calls Try.prog 12 #[.pointer (some ⟨hb, 0, none⟩), .int .i64 k] w fun e w' => e = .returned (.bool (HeapPure.get l k).isSome) ∧ ∃ v', Hp w' base hb fv9 v' mb (drop lt l k) ∧ Kept (fun y => y = hb ∨ own mb v y) w w' ∧ Moved w v v' := by
  rw [get_isSome]
  cases e : idx l k with
  | none =>
    have hd : drop lt l k = l := by unfold drop; rw [e]
    rw [hd]
    exact (drop_none base hb v mb l k hk e w h).mono fun e w' ⟨h3, h4⟩ => ⟨h3, v, h4 ▸ h, h4 ▸ Kept.refl _ _, Moved.refl _ _⟩
  | some i => exact drop_some base hb v mb l k hk i e w h

/-- Two heaps, all of them from block base on, that share no block. -/
def T2 (w : World) (base a b : Nat) (l m : List (Int × Int)) : Prop :=
  ∃ v1 mb1 v2 mb2, Hp w base a fv9 v1 mb1 l ∧ Hp w base b fv9 v2 mb2 m ∧ base ≤ a ∧ base ≤ b ∧ base ≤ mb1 ∧ base ≤ mb2 ∧ a ≠ b ∧ mb1 ≠ mb2 ∧ ∀ g, v1.ownBlock = some g → v2.ownBlock ≠ some g
theorem T2.symm {w : World} {base a b : Nat} {l m : List (Int × Int)} (h : T2 w base a b l m) : T2 w base b a m l := by
  obtain ⟨v1, mb1, v2, mb2, h1, h2, h3, h4, h5, h6, h7, h8, h9⟩ := h
  exact ⟨v2, mb2, v1, mb1, h2, h1, h4, h3, h6, h5, Ne.symm h7, Ne.symm h8, fun g hg hh => h9 g hh hg⟩
theorem T2.len {w : World} {base a b : Nat} {l m : List (Int × Int)} (h : T2 w base a b l m) : l.length ≤ 100000 := by obtain ⟨v1, mb1, v2, mb2, h1, -⟩ := h; exact h1.len
theorem T2.size {w : World} {base a b : Nat} {l m : List (Int × Int)} (h : T2 w base a b l m) : base ≤ w.heap.size := by
  obtain ⟨v1, mb1, v2, mb2, h1, h2, h3, -⟩ := h
  have := lt_of h1.blk
  omega

/-- What one turns is none of the other's. -/
theorem foreign {w : World} {base a b mb1 mb2 : Nat} {v1 v2 : Value} {l m : List (Int × Int)} (h1 : Hp w base a fv9 v1 mb1 l) (h2 : Hp w base b fv9 v2 mb2 m) (hab : a ≠ b) (hm : mb1 ≠ mb2) (ho : ∀ g, v1.ownBlock = some g → v2.ownBlock ≠ some g) :
    (¬ (b = a ∨ own mb1 v1 b)) ∧ (¬ (mb2 = a ∨ own mb1 v1 mb2)) ∧ ∀ g, v2.ownBlock = some g → ¬ (g = a ∨ own mb1 v1 g) := by
  obtain ⟨D1, ⟨es1, c1, hm1, -⟩, -⟩ := h1.mp
  obtain ⟨D2, ⟨es2, c2, hm2, -⟩, -⟩ := h2.mp
  have own1 : ∀ g, v1.ownBlock = some g → ∃ cur, w.heap[g]? = some (.cells cur 49 (0, 0)) := fun g hg => by
    rcases h1.own.2 with ⟨e, -⟩ | ⟨g', cap, cur, e, -, hg', -⟩
    · rw [e] at hg; cases hg
    · rw [e] at hg; cases hg; exact ⟨cur, hg'⟩
  have own2 : ∀ g, v2.ownBlock = some g → ∃ cur, w.heap[g]? = some (.cells cur 49 (0, 0)) := fun g hg => by
    rcases h2.own.2 with ⟨e, -⟩ | ⟨g', cap, cur, e, -, hg', -⟩
    · rw [e] at hg; cases hg
    · rw [e] at hg; cases hg; exact ⟨cur, hg'⟩
  refine ⟨?_, ?_, fun g hg => ?_⟩
  · rintro (h | h | h)
    · exact hab h.symm
    · have := h2.blk; rw [h, hm1] at this; cases this
    · obtain ⟨cur, hc⟩ := own1 b h.symm
      rw [h2.blk] at hc; cases hc
  · rintro (h | h | h)
    · have := h1.blk; rw [← h, hm2] at this; cases this
    · exact hm h.symm
    · obtain ⟨cur, hc⟩ := own1 mb2 h.symm
      rw [hm2] at hc; cases hc
  · obtain ⟨cur, hc⟩ := own2 g hg
    rintro (h | h | h)
    · rw [h, h1.blk] at hc; cases hc
    · rw [h, hm1] at hc; cases hc
    · exact ho g h.symm hg

theorem T2.turn {w w' : World} {base a b mb1 mb2 : Nat} {v1 v1' v2 : Value} {l l' m : List (Int × Int)} (h1 : Hp w base a fv9 v1 mb1 l) (h2 : Hp w base b fv9 v2 mb2 m) (ha : base ≤ a) (hb : base ≤ b) (hm1 : base ≤ mb1) (hm2 : base ≤ mb2) (hab : a ≠ b) (hm : mb1 ≠ mb2)
    (ho : ∀ g, v1.ownBlock = some g → v2.ownBlock ≠ some g) (h1' : Hp w' base a fv9 v1' mb1 l') (k : Kept (fun y => y = a ∨ own mb1 v1 y) w w') (mv : Moved w v1 v1') : T2 w' base a b l' m ∧ Below base w w' := by
  obtain ⟨f1, f2, f3⟩ := foreign h1 h2 hab hm ho
  refine ⟨⟨v1', mb1, v2, mb2, h1', h2.kept k f1 f2 f3, ha, hb, hm1, hm2, hab, hm, fun g hg hh => ?_⟩, own_below h1 ha hm1 k⟩
  rcases mv g hg with h | h
  · exact ho g h hh
  · have := (h2.own.lt g hh).2
    omega

theorem setT (base a b : Nat) (l m : List (Int × Int)) (k x : Int) (hk : (Lit.int .i64 k).wf = true) (hl : l.length + 1 ≤ 100000) (w : World) (h : T2 w base a b l m) :
    Calls Try.prog 10 #[.pointer (some ⟨a, 0, none⟩), .int .i64 k, .int .i64 x] w fun e w' => e = .returned (.tuple #[]) ∧ T2 w' base a b (setAt lt l k x) m ∧ Below base w w' := by
  have hsz := h.size
  obtain ⟨v1, mb1, v2, mb2, h1, h2, h3, h4, h5, h6, h7, h8, h9⟩ := h
  exact (set_any base a v1 mb1 l k x hk hl w hsz h1).mono fun e w' ⟨q1, v', q2, q3, q4⟩ => ⟨q1, T2.turn h1 h2 h3 h4 h5 h6 h7 h8 h9 q2 q3 q4⟩
theorem dropT (base a b : Nat) (l m : List (Int × Int)) (k : Int) (hk : (Lit.int .i64 k).wf = true) (w : World) (h : T2 w base a b l m) :
    Calls Try.prog 12 #[.pointer (some ⟨a, 0, none⟩), .int .i64 k] w fun e w' => e = .returned (.bool (HeapPure.get l k).isSome) ∧ T2 w' base a b (drop lt l k) m ∧ Below base w w' := by
  obtain ⟨v1, mb1, v2, mb2, h1, h2, h3, h4, h5, h6, h7, h8, h9⟩ := h
  exact (drop_any base a v1 mb1 l k hk w h1).mono fun e w' ⟨q1, v', q2, q3, q4⟩ => ⟨q1, T2.turn h1 h2 h3 h4 h5 h6 h7 h8 h9 q2 q3 q4⟩
theorem T2.below {w w' : World} {base a b : Nat} {l m : List (Int × Int)} (h : T2 w base a b l m) (k : Below w.heap.size w w') : T2 w' base a b l m := by
  obtain ⟨v1, mb1, v2, mb2, h1, h2, h3⟩ := h
  have hk := Kept.of_below (F := fun _ => False) k
  exact ⟨v1, mb1, v2, mb2, h1.kept hk (fun h => h) (fun h => h) (fun _ _ h => h), h2.kept hk (fun h => h) (fun h => h) (fun _ _ h => h), h3⟩
theorem minT (base a b : Nat) (l m : List (Int × Int)) (hl : 0 < l.length) (w : World) (h : T2 w base a b l m) :
    Calls Try.prog 11 #[.pointer (some ⟨a, 0, none⟩)] w fun e w' => e = .returned (.tuple #[.int .i64 (kk l 0), .int .i64 (vv l 0), .bool true]) ∧ T2 w' base a b l m ∧ Below base w w' := by
  have hsz := h.size
  have hh := h
  obtain ⟨v1, mb1, v2, mb2, h1, -⟩ := h
  exact (min_some base a v1 mb1 l hl w h1).mono fun e w' ⟨q1, q2⟩ => ⟨q1, hh.below q2, q2.mono hsz⟩
theorem lenT (base a b : Nat) (l m : List (Int × Int)) (w : World) (h : T2 w base a b l m) :
    Calls Try.prog 13 #[.pointer (some ⟨a, 0, none⟩)] w fun e w' => e = .returned (.int .i64 l.length) ∧ w = w' := by
  obtain ⟨v1, mb1, v2, mb2, h1, -⟩ := h
  exact len_any base a v1 mb1 l w h1
/-- A second heap beside the first. -/
theorem newT (base a : Nat) (l : List (Int × Int)) (w : World) (h : HB w base a l) :
    Calls Try.prog 8 #[fv9] w fun e w' => ∃ b, e = .returned (.pointer (some ⟨b, 0, none⟩)) ∧ T2 w' base a b l [] ∧ Below base w w' := by
  have hsz := h.size
  obtain ⟨v, mb, h1, h2, h3⟩ := h
  refine (new_any w).mono fun e w' ⟨hb, mb', q1, q2, q3, q4, q5, q6, q7⟩ => ⟨hb, q1, ⟨v, mb, .slice none 0 0, mb', h1.kept (Kept.of_below (F := fun _ => False) q7) (fun h => h) (fun h => h) (fun _ _ h => h), ?_, h2, by omega, h3, by omega, ?_, ?_, fun g _ h => by cases h⟩, q7.mono hsz⟩
  · exact ⟨q6.blk, OwnP.nil _ _ _, q6.mp, q6.inj, q6.wf, q6.len⟩
  · have := lt_of h1.blk; omega
  · have := h1.mp.lt; omega
end Go.Proofs.Ytbnpipfmeekbdaa
