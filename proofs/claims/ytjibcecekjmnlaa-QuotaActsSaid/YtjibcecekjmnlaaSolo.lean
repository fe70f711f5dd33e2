/- Sums behind one that was turned; a ledger of one function alone. -/
import Derived.Test.YtjibcecekjmnlaaHead
namespace Go.Proofs.Ytjibcecekjmnlaa
open Go.RowKit Go.Kpt
set_option linter.unusedVariables false

def cr (a : Nat) (m : Fn) : Int := if m.th = true ∧ m.acc = a then m.res else 0
def cb (a : Nat) (m : Fn) : Int := if m.th = true ∧ m.acc = a then m.bu else 0
def co (a : Nat) (m : Fn) : Int := if m.th = true ∧ m.acc = a ∧ m.res = 0 then m.bu else 0
theorem rs_put (f : Nat → Fn) (a h : Nat) (m : Fn) : ∀ k, rs (put f h m) a k = rs f a k + if h < k then cr a m - cr a (f h) else 0 := by
  intro k
  induction k with
  | zero => simp [rs]
  | succ k ih =>
    show rs (put f h m) a k + cr a (put f h m k) = rs f a k + cr a (f k) + _
    rw [ih]
    by_cases e : k = h
    · subst e; rw [put_same, if_neg (by omega), if_pos (by omega)]; omega
    · rw [put_ne _ _ _ _ e]
      by_cases hl : h < k
      · rw [if_pos hl, if_pos (by omega)]; omega
      · rw [if_neg hl, if_neg (by omega)]; omega
theorem bs_put (f : Nat → Fn) (a h : Nat) (m : Fn) : ∀ k, bs (put f h m) a k = bs f a k + if h < k then cb a m - cb a (f h) else 0 := by
  intro k
  induction k with
  | zero => simp [bs]
  | succ k ih =>
    show bs (put f h m) a k + cb a (put f h m k) = bs f a k + cb a (f k) + _
    rw [ih]
    by_cases e : k = h
    · subst e; rw [put_same, if_neg (by omega), if_pos (by omega)]; omega
    · rw [put_ne _ _ _ _ e]
      by_cases hl : h < k
      · rw [if_pos hl, if_pos (by omega)]; omega
      · rw [if_neg hl, if_neg (by omega)]; omega
theorem os_put (f : Nat → Fn) (a h : Nat) (m : Fn) : ∀ k, os (put f h m) a k = os f a k + if h < k then co a m - co a (f h) else 0 := by
  intro k
  induction k with
  | zero => simp [os]
  | succ k ih =>
    show os (put f h m) a k + co a (put f h m k) = os f a k + co a (f k) + _
    rw [ih]
    by_cases e : k = h
    · subst e; rw [put_same, if_neg (by omega), if_pos (by omega)]; omega
    · rw [put_ne _ _ _ _ e]
      by_cases hl : h < k
      · rw [if_pos hl, if_pos (by omega)]; omega
      · rw [if_neg hl, if_neg (by omega)]; omega
theorem rs_l0 (a : Nat) : ∀ k, rs l0.fs a k = 0 := by
  intro k; induction k with
  | zero => rfl
  | succ k ih => simp only [rs, ih]; rfl
theorem bs_l0 (a : Nat) : ∀ k, bs l0.fs a k = 0 := by
  intro k; induction k with
  | zero => rfl
  | succ k ih => simp only [bs, ih]; rfl
theorem os_l0 (a : Nat) : ∀ k, os l0.fs a k = 0 := by
  intro k; induction k with
  | zero => rfl
  | succ k ih => simp only [os, ih]; rfl
theorem hk_below {w u u' : World} {b : Nat} (hbw : w.heap.size ≤ b) (hB : Below w.heap.size w u) (k : Kept (fun x => x = b) u u') : Below w.heap.size w u' := hB.trans (k.below hB.size (fun x hx h => by omega))

/-- One function, without reserved calls, of one account. -/
def solo (L n : Int) : Lg := ⟨put l0.ac 3 ⟨true, L⟩, put l0.fs 9 ⟨true, 3, 0, n⟩⟩
theorem solo_good {L n : Int} (h1 : 0 ≤ L) (h2 : L ≤ 1000) (h3 : 0 ≤ n) (h4 : n ≤ 100000) : Good (solo L n) := good_setF (good_setA good_l0 3 ⟨true, L⟩ ⟨h1, h2⟩) 9 ⟨true, 3, 0, n⟩ ⟨(by decide : (3 : Nat) < 16), (by decide : (0 : Int) ≤ 0), (by decide : (0 : Int) ≤ 1000), h3, h4⟩
theorem solo_rs (L n : Int) : rs (solo L n).fs 3 64 = 0 := by rw [solo, rs_put, rs_l0]; simp [cr, l0]
theorem solo_bs (L n : Int) : bs (solo L n).fs 3 64 = n := by rw [solo, bs_put, bs_l0]; simp [cb, l0]
theorem solo_os (L n : Int) : os (solo L n).fs 3 64 = n := by rw [solo, os_put, os_l0]; simp [co, l0]
theorem solo_ask (L n : Int) : askR (solo L n) 9 = if L ≤ n then 2 else 0 := by
  have h0 : (solo L n).fs 9 = ⟨true, 3, 0, n⟩ := rfl
  have h1 : ((solo L n).ac 3).lim = L := rfl
  unfold askR
  rw [h0]
  dsimp only
  rw [h1, solo_bs, solo_rs, solo_os, if_neg (by omega)]
  by_cases h : L ≤ n
  · rw [if_pos h, if_pos h]
  · rw [if_neg h, if_neg h, if_neg (by omega)]
theorem solo_setF (L n m : Int) : (solo L n).setF 9 ⟨true, 3, 0, m⟩ = solo L m := by simp only [Lg.setF, solo, put_put]
theorem solo_setA (L n M : Int) : (solo L n).setA 3 ⟨true, M⟩ = solo M n := by simp only [Lg.setA, solo, put_put]

section
variable (b : Nat) (L n : Int) (h1 : 0 ≤ L) (h2 : L ≤ 1000) (h3 : 0 ≤ n) (h4 : n ≤ 100000) (w : World) (q : Lq w b (solo L n))
include h1 h2 h3 h4 q
theorem solo_begin (h : n < L) : Calls Try.prog 12 #[.pointer (some ⟨b, 0, none⟩), .int .i64 9] w fun e w' => e = .returned (.bool true) ∧ Lq w' b (solo L (n + 1)) ∧ Kept (fun x => x = b) w w' := by
  have h := begin_t b (solo L n) (solo_good h1 h2 h3 h4) 9 (by omega) rfl (by rw [solo_ask, if_neg (by omega)]) w q
  rw [show (solo L n).setF 9 { (solo L n).fs 9 with bu := ((solo L n).fs 9).bu + 1 } = solo L (n + 1) from solo_setF L n (n + 1)] at h
  exact h
theorem solo_begin_f (h : ¬ n < L) : Calls Try.prog 12 #[.pointer (some ⟨b, 0, none⟩), .int .i64 9] w fun e w' => e = .returned (.bool false) ∧ Below w.heap.size w w' :=
  begin_f b (solo L n) (solo_good h1 h2 h3 h4) 9 (by omega) rfl (by rw [solo_ask, if_pos (by omega)]; omega) w q
theorem solo_end (h : n ≠ 0) : Calls Try.prog 13 #[.pointer (some ⟨b, 0, none⟩), .int .i64 9] w fun e w' => e = .returned (.bool true) ∧ Lq w' b (solo L (n - 1)) ∧ Kept (fun x => x = b) w w' := by
  have h := end_t b (solo L n) 9 (by omega) ((solo_good h1 h2 h3 h4).1 9 (by omega)) rfl h w q
  rw [show (solo L n).setF 9 { (solo L n).fs 9 with bu := ((solo L n).fs 9).bu - 1 } = solo L (n - 1) from solo_setF L n (n - 1)] at h
  exact h
theorem solo_limit (M : Int) (h5 : 0 ≤ M) (h6 : M ≤ 1000) : Calls Try.prog 10 #[.pointer (some ⟨b, 0, none⟩), .int .i64 3, .int .i64 M] w fun e w' => e = .returned (.int .i64 0) ∧ Lq w' b (solo M n) ∧ Kept (fun x => x = b) w w' := by
  have h := setA_t b (solo L n) (solo_good h1 h2 h3 h4) 3 (by omega) M h5 h6 (by rw [solo_rs]; exact h5) w q
  rw [solo_setA] at h
  exact h
end
theorem solo_end_f (b : Nat) (L n : Int) (w : World) (q : Lq w b (solo L n)) (h : n = 0) : Calls Try.prog 13 #[.pointer (some ⟨b, 0, none⟩), .int .i64 9] w fun e w' => e = .returned (.bool false) ∧ w = w' :=
  end_f b (solo L n) 9 (by omega) (.inr h) w q
theorem solo_busy (b : Nat) (L n : Int) (w : World) (q : Lq w b (solo L n)) : Calls Try.prog 14 #[.pointer (some ⟨b, 0, none⟩), .int .i64 9] w fun e w' => e = .returned (.int .i64 n) ∧ w = w' :=
  busy_any b (solo L n) 9 (by omega) (fun h => by cases h) w q
theorem solo_first (b : Nat) (L : Int) (h1 : 0 ≤ L) (h2 : L ≤ 1000) (w : World) (q : Lq w b l0) : Calls Try.prog 10 #[.pointer (some ⟨b, 0, none⟩), .int .i64 3, .int .i64 L] w fun e w' => e = .returned (.int .i64 0) ∧ Lq w' b (l0.setA 3 ⟨true, L⟩) ∧ Kept (fun x => x = b) w w' :=
  setA_t b l0 good_l0 3 (by omega) L h1 h2 (by rw [rs_l0]; exact h1) w q
theorem solo_second (b : Nat) (L : Int) (h1 : 0 ≤ L) (h2 : L ≤ 1000) (w : World) (q : Lq w b (l0.setA 3 ⟨true, L⟩)) : Calls Try.prog 11 #[.pointer (some ⟨b, 0, none⟩), .int .i64 9, .int .i64 3, .int .i64 0] w fun e w' => e = .returned (.int .i64 0) ∧ Lq w' b (solo L 0) ∧ Kept (fun x => x = b) w w' :=
  setF_t b (l0.setA 3 ⟨true, L⟩) (good_setA good_l0 3 ⟨true, L⟩ ⟨h1, h2⟩) 9 3 (by omega) (by omega) 0 (by omega) (by omega) rfl (.inl rfl) (by show rs l0.fs 3 64 - 0 + 0 ≤ L; rw [rs_l0]; omega) w q
end Go.Proofs.Ytjibcecekjmnlaa
