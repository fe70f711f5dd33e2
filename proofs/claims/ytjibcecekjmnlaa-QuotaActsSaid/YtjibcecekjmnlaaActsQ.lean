/- A ledger beside the law's model of it: each operation on both. -/
import Derived.Test.YtjibcecekjmnlaaModFun
namespace Go.Proofs.Ytjibcecekjmnlaa
open Go.RowKit Go.Kpt
set_option linter.unusedVariables false

theorem ok_setAI {s : Lg} {n : Nat} (hs : Ok s n) (hn : n + 1 ≤ 1000) (a l : Int) : Ok (setAI s a l).2 (n + 1) := by
  have h0 := hs.mono (Nat.le_succ n) hn
  unfold setAI
  split
  · rename_i h
    split
    · exact h0
    · exact ok_setA h0 a.toNat l h.2.1 h.2.2
  · exact h0
theorem ok_setFI {s : Lg} {n : Nat} (hs : Ok s n) (hn : n + 1 ≤ 1000) (f a l : Int) : Ok (setFI s f a l).2 (n + 1) := by
  have h0 := hs.mono (Nat.le_succ n) hn
  unfold setFI
  split
  · rename_i h
    split
    · exact h0
    · rename_i h1
      split
      · exact h0
      · split
        · exact h0
        · have hf := h0.fs f.toNat (by omega)
          refine ok_setF h0 f.toNat _ ⟨by show a.toNat < 16; omega, h.2.2.1, h.2.2.2, hf.2.2.2.1, hf.2.2.2.2⟩ rfl ?_
          show (s.ac a.toNat).th = true
          cases e : (s.ac a.toNat).th
          · exact absurd e h1
          · rfl
  · exact h0
theorem ok_bu {s : Lg} {n : Nat} (hs : Ok s n) (hn : n + 1 ≤ 1000) (j : Nat) (hj : j < 64) (ht : (s.fs j).th = true) (d : Int) (hd : 0 ≤ (s.fs j).bu + d) (hd1 : d ≤ 1) : Ok (s.setF j { s.fs j with bu := (s.fs j).bu + d }) (n + 1) := by
  have h0 := hs.mono (Nat.le_succ n) hn
  have hf := hs.fs j hj
  refine ok_setF h0 j _ ⟨hf.1, hf.2.1, hf.2.2.1, hd, ?_⟩ ht (hs.kn j hj ht)
  show (s.fs j).bu + d ≤ ((n + 1 : Nat) : Int)
  push_cast; omega
theorem fsI_th {s : Lg} {k : Int} (h : (fsI s k).th = true) : ∃ j : Nat, j < 64 ∧ k = j ∧ (s.fs j).th = true ∧ fsI s k = s.fs j := by
  by_cases hr : 0 ≤ k ∧ k < 64
  · obtain ⟨j, rfl⟩ : ∃ j : Nat, k = j := ⟨k.toNat, by omega⟩
    have e := fsI_in s j (by omega)
    rw [e] at h
    exact ⟨j, by omega, rfl, h, e⟩
  · rw [fsI_out s k hr] at h; cases h

theorem fsI_bu {s : Lg} {n : Nat} (hs : Ok s n) {k : Int} : 0 ≤ (fsI s k).bu ∧ (fsI s k).bu ≤ n ∧ ((fsI s k).th = false → (fsI s k).bu = 0) := by
  by_cases hr : 0 ≤ k ∧ k < 64
  · obtain ⟨j, rfl⟩ : ∃ j : Nat, k = j := ⟨k.toNat, by omega⟩
    rw [fsI_in s j (by omega)]
    have := hs.fs j (by omega)
    exact ⟨this.2.2.2.1, this.2.2.2.2, fun h => (hs.un j (by omega) h).2⟩
  · rw [fsI_out s k hr]; exact ⟨by decide, Int.natCast_nonneg n, fun _ => rfl⟩
/-- What the model's map gives of a function by any number. -/
theorem mF_any {s : Lg} {n : Nat} (hs : Ok s n) (k : Int) : ∃ (X Y : Int), (mF s k).getD (0, 0, 0) = (X, Y, (fsI s k).bu) ∧ (mF s k).isSome = (fsI s k).th := by
  cases ht : (fsI s k).th
  · exact ⟨0, 0, by unfold mF; rw [ht, (fsI_bu hs).2.2 ht]; rfl, by unfold mF; rw [ht]; rfl⟩
  · exact ⟨_, _, by unfold mF; rw [ht]; rfl, by unfold mF; rw [ht]; rfl⟩
theorem mL_any {s : Lg} {n : Nat} (hs : Ok s n) (a : Int) : (mL s a).getD 0 = accL s a ∧ (mL s a).isSome = (acI s a).th := by
  unfold mL accL
  cases (acI s a).th <;> exact ⟨rfl, rfl⟩
theorem Md.look {w : World} {mb lb fb : Nat} {s : Lg} {n : Nat} (h : Md w mb lb fb s n) (k : Int) (hk : (Lit.int .i64 k).wf = true) (p q r : Int) (b : Bool) (hv : (mF s k).getD (0, 0, 0) = (p, q, r)) (hb : (mF s k).isSome = b) (i : Nat) :
    (Instr.lookup 49 (.map (some fb)) (.int .i64 k) true).run Try.prog (w.drewN i) = .ok (.tuple #[.agg #[.int .i64 p, .int .i64 q, .int .i64 r], .bool b]) (w.drewN i) := by
  obtain ⟨c, _, hg⟩ := h.fm
  exact hg.look_ok_eq Try.underlying3 Try.underlying49 (0, 0, 0) (fun w => by kernel_rfl) k hk (p, q, r) b hv hb i
theorem Md.get {w : World} {mb lb fb : Nat} {s : Lg} {n : Nat} (h : Md w mb lb fb s n) (k : Int) (hk : (Lit.int .i64 k).wf = true) (p q r : Int) (hv : (mF s k).getD (0, 0, 0) = (p, q, r)) (i : Nat) :
    (Instr.lookup 49 (.map (some fb)) (.int .i64 k) false).run Try.prog (w.drewN i) = .ok (.agg #[.int .i64 p, .int .i64 q, .int .i64 r]) (w.drewN i) := by
  obtain ⟨c, _, hg⟩ := h.fm
  exact hg.look_eq Try.underlying3 Try.underlying49 (0, 0, 0) (fun w => by kernel_rfl) k hk (p, q, r) hv i
theorem Md.look0 {w : World} {mb lb fb : Nat} {s : Lg} {n : Nat} (h : Md w mb lb fb s n) (k : Int) (hk : (Lit.int .i64 k).wf = true) (p q r : Int) (b : Bool) (hv : (mF s k).getD (0, 0, 0) = (p, q, r)) (hb : (mF s k).isSome = b) :
    (Instr.lookup 49 (.map (some fb)) (.int .i64 k) true).run Try.prog w = .ok (.tuple #[.agg #[.int .i64 p, .int .i64 q, .int .i64 r], .bool b]) w := h.look k hk p q r b hv hb 0
theorem Md.get0 {w : World} {mb lb fb : Nat} {s : Lg} {n : Nat} (h : Md w mb lb fb s n) (k : Int) (hk : (Lit.int .i64 k).wf = true) (p q r : Int) (hv : (mF s k).getD (0, 0, 0) = (p, q, r)) :
    (Instr.lookup 49 (.map (some fb)) (.int .i64 k) false).run Try.prog w = .ok (.agg #[.int .i64 p, .int .i64 q, .int .i64 r]) w := h.get k hk p q r hv 0
theorem Md.limit {w : World} {mb lb fb : Nat} {s : Lg} {n : Nat} (h : Md w mb lb fb s n) (k : Int) (hk : (Lit.int .i64 k).wf = true) (p : Int) (b : Bool) (hv : (mL s k).getD 0 = p) (hb : (mL s k).isSome = b) (i : Nat) :
    (Instr.lookup 48 (.map (some lb)) (.int .i64 k) true).run Try.prog (w.drewN i) = .ok (.tuple #[.int .i64 p, .bool b]) (w.drewN i) := by
  obtain ⟨c, _, hg⟩ := h.lm
  exact hg.look_ok_eq Try.underlying3 Try.underlying48 0 (fun w => by kernel_rfl) k hk p b hv hb i

/-- What an act is. -/
def Act4 (w : World) (q : Nat) (x : Int × Int × Int × Int) : Prop := w.heap[q]? = some (.cells #[.int .i64 x.1, .int .i64 x.2.1, .int .i64 x.2.2.1, .int .i64 x.2.2.2] 38 (0, 0))

/-- A ledger, the model beside it, an act. -/
structure QA (w0 w : World) (b mb lb fb : Nat) (s t : Lg) (n : Nat) : Prop where
  lq : Lq w b s
  md : Md w mb lb fb t n
  bel : Below w0.heap.size w0 w
  ord : w0.heap.size ≤ b ∧ b < lb
theorem QA.below {w0 w w' : World} {b mb lb fb : Nat} {s t : Lg} {n : Nat} (h : QA w0 w b mb lb fb s t n) (k : Below w.heap.size w w') : QA w0 w' b mb lb fb s t n :=
  ⟨h.lq.below k, h.md.below k, h.bel.trans (k.mono h.bel.size), h.ord⟩
theorem QA.kb {w0 w w' : World} {b mb lb fb : Nat} {s s' t : Lg} {n : Nat} (h : QA w0 w b mb lb fb s t n) (l : Lq w' b s') (k : Kept (fun x => x = b) w w') : QA w0 w' b mb lb fb s' t n := by
  have h1 := h.ord
  have h2 := h.md.ord
  exact ⟨l, h.md.kept k (fun x hx hh => by omega), h.bel.trans (k.below h.bel.size (fun x hx hh => by omega)), h.ord⟩
theorem QA.km {w0 w w' : World} {b mb lb fb : Nat} {s t t' : Lg} {n m : Nat} (h : QA w0 w b mb lb fb s t n) (l : Md w' mb lb fb t' m) (k : Kept (In2 lb fb) w w') : QA w0 w' b mb lb fb s t' m := by
  have h1 := h.ord
  have h2 := h.md.ord
  exact ⟨h.lq.kept k (fun hh => by rcases hh with hh | hh <;> omega), l, h.bel.trans (k.below h.bel.size (fun x hx hh => by rcases hh with hh | hh <;> omega)), h.ord⟩
theorem QA.monoN {w0 w : World} {b mb lb fb : Nat} {s t : Lg} {n m : Nat} (h : QA w0 w b mb lb fb s t n) (hm : n ≤ m) : QA w0 w b mb lb fb s t m := ⟨h.lq, h.md.mono hm, h.bel, h.ord⟩

/-- The same, with an act in block q. -/
structure QX (w0 w : World) (b mb lb fb : Nat) (s t : Lg) (n q : Nat) (x : Int × Int × Int × Int) : Prop where
  qa : QA w0 w b mb lb fb s t n
  act : Act4 w q x
  apart : mb < q
theorem QX.below {w0 w w' : World} {b mb lb fb : Nat} {s t : Lg} {n q : Nat} {x : Int × Int × Int × Int} (h : QX w0 w b mb lb fb s t n q x) (k : Below w.heap.size w w') : QX w0 w' b mb lb fb s t n q x := ⟨h.qa.below k, (k.block q (lt_of h.act)).trans h.act, h.apart⟩
theorem QX.drew {w0 w : World} {b mb lb fb : Nat} {s t : Lg} {n q : Nat} {x : Int × Int × Int × Int} (h : QX w0 w b mb lb fb s t n q x) : QX w0 w.drew b mb lb fb s t n q x := h.below ((Below.refl _ _).drew)
theorem QX.cells {w0 w : World} {b mb lb fb : Nat} {s t : Lg} {n q : Nat} {x : Int × Int × Int × Int} (h : QX w0 w b mb lb fb s t n q x) : w.cell? ⟨q, 0, none⟩ = some (.int .i64 x.1) ∧ w.cell? ⟨q, 1, none⟩ = some (.int .i64 x.2.1) ∧ w.cell? ⟨q, 2, none⟩ = some (.int .i64 x.2.2.1) ∧ w.cell? ⟨q, 3, none⟩ = some (.int .i64 x.2.2.2) :=
  ⟨(cell_of h.act).trans rfl, (cell_of h.act).trans rfl, (cell_of h.act).trans rfl, (cell_of h.act).trans rfl⟩

section
variable {w0 : World} {b mb lb fb : Nat} {n q : Nat} {x : Int × Int × Int × Int}
theorem QX.kb {w w' : World} {s s' t : Lg} (h : QX w0 w b mb lb fb s t n q x) (l : Lq w' b s') (k : Kept (fun x => x = b) w w') : QX w0 w' b mb lb fb s' t n q x := by
  have h1 := h.qa.ord
  have h2 := h.qa.md.ord
  have h3 := h.apart
  exact ⟨h.qa.kb l k, (k.block q (lt_of h.act) (by omega)).trans h.act, h.apart⟩
theorem QX.km {w w' : World} {s t t' : Lg} {m : Nat} (h : QX w0 w b mb lb fb s t n q x) (l : Md w' mb lb fb t' m) (k : Kept (In2 lb fb) w w') : QX w0 w' b mb lb fb s t' m q x := by
  have h2 := h.qa.md.ord
  have h3 := h.apart
  exact ⟨h.qa.km l k, (k.block q (lt_of h.act) (fun hh => by rcases hh with hh | hh <;> omega)).trans h.act, h.apart⟩
/-- The ledger's operations, beside the model. -/
theorem qx_setA (s t : Lg) (hs : Good s) (a l : Int) (w : World) (h : QX w0 w b mb lb fb s t n q x) : Calls Try.prog 10 #[.pointer (some ⟨b, 0, none⟩), .int .i64 a, .int .i64 l] w fun e w' => e = .returned (.int .i64 (setAI s a l).1) ∧ QX w0 w' b mb lb fb (setAI s a l).2 t n q x :=
  (setA_tot b s hs a l w h.qa.lq).mono fun e w' ⟨h1, h2, h3⟩ => ⟨h1, h.kb h2 h3⟩
theorem qx_setF (s t : Lg) (hs : Good s) (f a l : Int) (w : World) (h : QX w0 w b mb lb fb s t n q x) : Calls Try.prog 11 #[.pointer (some ⟨b, 0, none⟩), .int .i64 f, .int .i64 a, .int .i64 l] w fun e w' => e = .returned (.int .i64 (setFI s f a l).1) ∧ QX w0 w' b mb lb fb (setFI s f a l).2 t n q x :=
  (setF_tot b s hs f a l w h.qa.lq).mono fun e w' ⟨h1, h2, h3⟩ => ⟨h1, h.kb h2 h3⟩
theorem qx_begin (s t : Lg) (hs : Good s) (f : Int) (w : World) (h : QX w0 w b mb lb fb s t n q x) : Calls Try.prog 12 #[.pointer (some ⟨b, 0, none⟩), .int .i64 f] w fun e w' => e = .returned (.bool (beginI s f).1) ∧ QX w0 w' b mb lb fb (beginI s f).2 t n q x :=
  (begin_tot b s hs f w h.qa.lq).mono fun e w' ⟨h1, h2, h3⟩ => ⟨h1, h.kb h2 h3⟩
theorem qx_end (s t : Lg) (hs : Good s) (f : Int) (w : World) (h : QX w0 w b mb lb fb s t n q x) : Calls Try.prog 13 #[.pointer (some ⟨b, 0, none⟩), .int .i64 f] w fun e w' => e = .returned (.bool (endI s f).1) ∧ QX w0 w' b mb lb fb (endI s f).2 t n q x ∧ Kept (fun x => x = b) w w' :=
  (end_tot b s hs f w h.qa.lq).mono fun e w' ⟨h1, h2, h3⟩ => ⟨h1, h.kb h2 h3, h3⟩
theorem qx_ask (s t : Lg) (hs : Good s) (f : Int) (w : World) (h : QX w0 w b mb lb fb s t n q x) : Calls Try.prog 20 #[.pointer (some ⟨b, 0, none⟩), .int .i64 f] w fun e w' => e = .returned (.tuple #[.int .i64 (askI s f).1, .bool (askI s f).2]) ∧ QX w0 w' b mb lb fb s t n q x :=
  (ask_tot b s hs f w h.qa.lq).mono fun e w' ⟨h1, h2⟩ => ⟨h1, h.below h2⟩
/-- The model's operations, beside the ledger. -/
theorem qx_msetA (s t : Lg) (ht : Ok t n) (a l : Int) (w : World) (h : QX w0 w b mb lb fb s t n q x) : Calls Try.prog 17 #[.pointer (some ⟨mb, 0, none⟩), .int .i64 a, .int .i64 l] w fun e w' => e = .returned (.int .i64 (setAI t a l).1) ∧ QX w0 w' b mb lb fb s (setAI t a l).2 (n + 1) q x :=
  (msetA_any mb lb fb t n ht a l w h.qa.md).mono fun e w' ⟨h1, h2, h3⟩ => ⟨h1, h.km h2 h3⟩
theorem qx_msetF (s t : Lg) (ht : Ok t n) (f a l : Int) (w : World) (h : QX w0 w b mb lb fb s t n q x) : Calls Try.prog 18 #[.pointer (some ⟨mb, 0, none⟩), .int .i64 f, .int .i64 a, .int .i64 l] w fun e w' => e = .returned (.int .i64 (setFI t f a l).1) ∧ QX w0 w' b mb lb fb s (setFI t f a l).2 (n + 1) q x :=
  (msetF_any mb lb fb t n ht f a l w h.qa.md).mono fun e w' ⟨h1, h2, h3⟩ => ⟨h1, h.km h2 h3⟩
theorem qx_mturn (s t : Lg) (ht : Ok t n) (j : Nat) (hj : j < 64) (hth : (t.fs j).th = true) (d : Int) (hd : d = 1 ∨ d = -1) (w : World) (h : QX w0 w b mb lb fb s t n q x) : Calls Try.prog 19 #[.pointer (some ⟨mb, 0, none⟩), .int .i64 (j : Int), .int .i64 d] w fun e w' => e = .returned (.tuple #[]) ∧ QX w0 w' b mb lb fb s (t.setF j { t.fs j with bu := (t.fs j).bu + d }) (n + 1) q x :=
  (mturn_any mb lb fb t n ht j hj hth d hd w h.qa.md).mono fun e w' ⟨h1, h2, h3⟩ => ⟨h1, h.km h2 h3⟩
theorem qx_mask (s t : Lg) (ht : Ok t n) (k : Int) (hk : (Lit.int .i64 k).wf = true) (w : World) (h : QX w0 w b mb lb fb s t n q x) : Calls Try.prog 16 #[.pointer (some ⟨mb, 0, none⟩), .int .i64 k] w fun e w' => e = .returned (.tuple #[.int .i64 (askI t k).1, .bool (askI t k).2]) ∧ QX w0 w' b mb lb fb s t n q x :=
  (mask_any mb lb fb t n ht k hk w h.qa.md).mono fun e w' ⟨h1, h2⟩ => ⟨h1, h.below h2⟩
end

/-- What the law asks of each act's account: of the model's sums by any number. -/
def sumA (a : Int) : Nat := if 0 ≤ a then a.toNat else 99
theorem sumA_iff (a : Int) : ∀ k : Nat, k < 16 → ((k : Int) = a ↔ k = sumA a) := by
  intro k hk; unfold sumA; split <;> omega
theorem accR_there {s : Lg} {a : Int} (h : (acI s a).th = true) : accR s a = rs s.fs (sumA a) 64 ∧ accB s a = bs s.fs (sumA a) 64 ∧ 0 ≤ a := by
  have hr : 0 ≤ a ∧ a < 16 := Decidable.byContradiction fun h' => by rw [acI_out s a h'] at h; cases h
  unfold accR accB sumA
  rw [if_pos h, if_pos h, if_pos hr.1]; exact ⟨rfl, rfl, hr.1⟩
theorem accR_none {s : Lg} {a : Int} (h : (acI s a).th = false) : accR s a = 0 ∧ accB s a = 0 ∧ accL s a = 0 := by
  unfold accR accB accL; rw [h]; exact ⟨rfl, rfl, rfl⟩
end Go.Proofs.Ytjibcecekjmnlaa
