/- A heap whose 'less' counts, behind one pointer. -/
import Derived.Test.YtbnpipfmeekbdaaHead
import Derived.Test.YtbnpipfmeekbdaaCheapOps
namespace Go.Proofs.Ytbnpipfmeekbdaa
open Go.RowKit Go.Kpt HeapPure
set_option linter.unusedVariables false

/-- A heap and its counter, all of it from block base on. -/
def HN (w : World) (base hb cb N : Nat) (l : List (Int × Int)) : Prop := ∃ b v mb, Hc w b hb v mb l cb N ∧ base ≤ b ∧ b ≤ hb ∧ b ≤ mb ∧ base ≤ cb
theorem HN.below {w w' : World} {base hb cb N : Nat} {l : List (Int × Int)} (h : HN w base hb cb N l) (k : Below w.heap.size w w') : HN w' base hb cb N l := by
  obtain ⟨b, v, mb, h, h1⟩ := h
  exact ⟨b, v, mb, ⟨h.hp.kept (Kept.of_below (F := fun _ => False) k) (fun h => h) (fun h => h) (fun _ _ h => h), h.cn.kept (Kept.of_below (F := fun _ => False) k) (fun h => h), h.nh, h.nm, h.ng⟩, h1⟩
theorem HN.cn {w : World} {base hb cb N : Nat} {l : List (Int × Int)} (h : HN w base hb cb N l) : Cn w cb N := by obtain ⟨b, v, mb, h, -⟩ := h; exact h.cn
theorem ownc_below {w w' : World} {base b hb mb cb N : Nat} {v : Value} {l : List (Int × Int)} (hH : Hc w b hb v mb l cb N) (h0 : base ≤ b) (h1 : b ≤ hb) (h2 : b ≤ mb) (h3 : base ≤ cb) (k : Kept (fun y => (y = hb ∨ own mb v y) ∨ y = cb) w w') : Below base w w' :=
  k.below (by have := lt_of hH.hp.blk; omega) fun x hx hF => by
    rcases hF with (h | h | h) | h
    · omega
    · omega
    · have := (hH.hp.own.lt x h.symm).1; omega
    · omega
theorem setN (base hb cb N : Nat) (l : List (Int × Int)) (k x : Int) (hk : (Lit.int .i64 k).wf = true) (hl : l.length + 1 ≤ 4096 ∨ (l.length ≤ 4096 ∧ (idx l k).isSome = true)) (hN : N ≤ 800000) (w : World) (h : HN w base hb cb N l) :
    Calls Try.prog 10 #[.pointer (some ⟨hb, 0, none⟩), .int .i64 k, .int .i64 x] w fun e w' => e = .returned (.tuple #[]) ∧ ∃ N', N' ≤ N + 39 ∧ N ≤ N' ∧ HN w' base hb cb N' (setAt lt l k x) ∧ Below base w w' := by
  obtain ⟨b, v, mb, h, h0, h1, h2, h3⟩ := h
  have hsz : b ≤ w.heap.size := by have := lt_of h.hp.blk; omega
  cases e : idx l k with
  | none => exact (setc_new cb N hN b hb v mb l k x hk (by rw [e] at hl; simp at hl; omega) e w hsz h).mono fun e w' ⟨h4, v', N', a1, a2, h5, h6, _⟩ => ⟨h4, N', a1, a2, ⟨b, v', mb, h5, h0, h1, h2, h3⟩, ownc_below h h0 h1 h2 h3 h6⟩
  | some i => exact (setc_there cb N hN b hb v mb l (by omega) k x hk i e w h).mono fun e w' ⟨h4, N', a1, a2, h5, h6⟩ => ⟨h4, N', a1, a2, ⟨b, v, mb, h5, h0, h1, h2, h3⟩, ownc_below h h0 h1 h2 h3 h6⟩
theorem dropN (base hb cb N : Nat) (l : List (Int × Int)) (k : Int) (hk : (Lit.int .i64 k).wf = true) (hl : l.length ≤ 4096) (hN : N ≤ 800000) (w : World) (h : HN w base hb cb N l) :
    Calls Try.prog 12 #[.pointer (some ⟨hb, 0, none⟩), .int .i64 k] w fun e w' => (∃ t, e = .returned (.bool t)) ∧ ∃ N', N' ≤ N + 39 ∧ N ≤ N' ∧ Cn w' cb N' ∧ Below base w w' := by
  obtain ⟨b, v, mb, h, h0, h1, h2, h3⟩ := h
  cases e : idx l k with
  | none => exact (dropc_none cb b hb v mb l k hk e w h.hp).mono fun e w' ⟨h4, h5⟩ => ⟨⟨_, h4⟩, N, by omega, Nat.le_refl _, by rw [← h5]; exact h.cn, by rw [← h5]; exact Below.refl _ _⟩
  | some i => exact (dropc_some cb N hN b hb v mb l k hk i e hl w h).mono fun e w' ⟨h4, v', N', a1, a2, h5, h6, _⟩ => ⟨⟨_, h4⟩, N', a1, a2, h5.cn, ownc_below h h0 h1 h2 h3 h6⟩
end Go.Proofs.Ytbnpipfmeekbdaa
