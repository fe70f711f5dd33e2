/- Functions of one account: what is reserved for each is there for it. -/
import Derived.Test.YtjibcecekjmnlaaSolo
import Derived.Test.YtjibcecekjmnlaaOwn
namespace Go.Proofs.Ytjibcecekjmnlaa
open Go.RowKit Go.Kpt
set_option linter.unusedVariables false

/-- Functions of account 0 alone, below n; no bound is passed. -/
structure Inv (s : Lg) (L : Int) (n : Nat) : Prop where
  good : Good s
  ac : s.ac 0 = ⟨true, L⟩
  kn : ∀ h, h < 64 → (s.fs h).th = true → (s.fs h).acc = 0 ∧ h < n
  un : ∀ h, h < 64 → (s.fs h).th = false → (s.fs h).res = 0 ∧ (s.fs h).bu = 0
  le : ∀ h, h < 64 → (s.fs h).th = true → 0 < (s.fs h).res → (s.fs h).bu ≤ (s.fs h).res
  op : os s.fs 0 64 ≤ L - rs s.fs 0 64

/-- The functions are the same, and what is reserved for them. -/
def Same (s s' : Lg) : Prop := (∀ h, (s'.fs h).th = (s.fs h).th ∧ (s'.fs h).res = (s.fs h).res) ∧ rs s'.fs 0 64 = rs s.fs 0 64
theorem Same.refl (s : Lg) : Same s s := ⟨fun _ => ⟨rfl, rfl⟩, rfl⟩
theorem Same.trans {a b c : Lg} (h : Same a b) (k : Same b c) : Same a c := ⟨fun x => ⟨(k.1 x).1.trans (h.1 x).1, (k.1 x).2.trans (h.1 x).2⟩, k.2.trans h.2⟩

theorem bs_le {s : Lg} {L : Int} {n : Nat} (v : Inv s L n) : ∀ k, k ≤ 64 → bs s.fs 0 k ≤ rs s.fs 0 k + os s.fs 0 k := by
  intro k
  induction k with
  | zero => intro _; simp [bs, rs, os]
  | succ k ih =>
    intro hk
    have h1 := ih (by omega)
    have hg := v.good.1 k (by omega)
    unfold goodf at hg
    have hle := v.le k (by omega)
    simp only [bs, rs, os]
    by_cases ht : (s.fs k).th = true
    · by_cases ha : (s.fs k).acc = 0
      · rw [if_pos ⟨ht, ha⟩, if_pos ⟨ht, ha⟩]
        by_cases hr : (s.fs k).res = 0
        · rw [if_pos ⟨ht, ha, hr⟩]; omega
        · rw [if_neg (fun h => hr h.2.2)]
          have := hle ht (by omega)
          omega
      · rw [if_neg (fun h => ha h.2), if_neg (fun h => ha h.2), if_neg (fun h => ha h.2.1)]; omega
    · rw [if_neg (fun h => ht h.1), if_neg (fun h => ht h.1), if_neg (fun h => ht h.1)]; omega
theorem bs_lt {s : Lg} {L : Int} {n : Nat} (v : Inv s L n) {h : Nat} (hh : h < 64) (ht : (s.fs h).th = true) (hr : 0 < (s.fs h).res) (hb : (s.fs h).bu < (s.fs h).res) : ∀ k, k ≤ 64 → h < k → bs s.fs 0 k < rs s.fs 0 k + os s.fs 0 k := by
  intro k
  induction k with
  | zero => intro _ h; omega
  | succ k ih =>
    intro hk hl
    by_cases e : k = h
    · subst e
      have h1 := bs_le v k (by omega)
      have ha := (v.kn k hh ht).1
      simp only [bs, rs, os]
      rw [if_pos ⟨ht, ha⟩, if_pos ⟨ht, ha⟩, if_neg (fun h => by have := h.2.2; omega)]
      omega
    · have h1 := ih (by omega) (by omega)
      have hg := v.good.1 k (by omega)
      unfold goodf at hg
      have hle := v.le k (by omega)
      simp only [bs, rs, os]
      by_cases ht : (s.fs k).th = true
      · by_cases ha : (s.fs k).acc = 0
        · rw [if_pos ⟨ht, ha⟩, if_pos ⟨ht, ha⟩]
          by_cases hr : (s.fs k).res = 0
          · rw [if_pos ⟨ht, ha, hr⟩]; omega
          · rw [if_neg (fun h => hr h.2.2)]
            have := hle ht (by omega)
            omega
        · rw [if_neg (fun h => ha h.2), if_neg (fun h => ha h.2), if_neg (fun h => ha h.2.1)]; omega
      · rw [if_neg (fun h => ht h.1), if_neg (fun h => ht h.1), if_neg (fun h => ht h.1)]; omega
theorem os_mono {f : Nat → Fn} (hg : ∀ h, h < 64 → goodf (f h)) (a h : Nat) : ∀ k, k ≤ 64 → h < k → co a (f h) ≤ os f a k := by
  intro k
  induction k with
  | zero => intro _ h; omega
  | succ k ih =>
    intro hk hl
    have h2 : 0 ≤ co a (f k) := by
      have := hg k (by omega)
      unfold goodf at this
      unfold co
      split <;> omega
    show co a (f h) ≤ os f a k + co a (f k)
    by_cases e : k = h
    · subst e
      have := os_bd hg a k (by omega)
      omega
    · have := ih (by omega) (by omega)
      omega

theorem ask_res {s : Lg} {L : Int} {n : Nat} (v : Inv s L n) {h : Nat} (hh : h < 64) (ht : (s.fs h).th = true) (hr : 0 < (s.fs h).res) (hb : (s.fs h).bu < (s.fs h).res) : askR s h = 0 := by
  have h1 := bs_lt v hh ht hr hb 64 (by omega) hh
  have h2 := v.op
  have ha := (v.kn h hh ht).1
  unfold askR
  rw [ha, v.ac, if_neg (by omega), if_neg (by show ¬ L ≤ bs s.fs 0 64; omega), if_neg (by omega)]
theorem ask_full {s : Lg} {h : Nat} (hr : 0 < (s.fs h).res) (hb : (s.fs h).bu = (s.fs h).res) : askR s h ≠ 0 := by
  unfold askR
  rw [if_pos ⟨hr, by omega⟩]
  omega

theorem inv_turn {s : Lg} {L : Int} {n : Nat} (v : Inv s L n) (hL : L ≤ 1000) {h : Nat} (hh : h < 64) (ht : (s.fs h).th = true) (d : Int) (h0 : 0 ≤ d)
    (h1 : 0 < (s.fs h).res → d ≤ (s.fs h).res) (h2 : (s.fs h).res = 0 → os s.fs 0 64 + d - (s.fs h).bu ≤ L - rs s.fs 0 64) :
    Inv (s.setF h { s.fs h with bu := d }) L n ∧ Same s (s.setF h { s.fs h with bu := d }) := by
  have hg := v.good.1 h hh
  have ha := (v.kn h hh ht).1
  have hrs : rs (s.setF h { s.fs h with bu := d }).fs 0 64 = rs s.fs 0 64 := by
    show rs (put s.fs h _) 0 64 = _
    rw [rs_put, if_pos hh]
    have : cr 0 { s.fs h with bu := d } = cr 0 (s.fs h) := rfl
    rw [this]; omega
  have hos : os (s.setF h { s.fs h with bu := d }).fs 0 64 = os s.fs 0 64 + (if (s.fs h).res = 0 then d - (s.fs h).bu else 0) := by
    show os (put s.fs h _) 0 64 = _
    rw [os_put, if_pos hh]
    unfold co
    dsimp only
    by_cases hr : (s.fs h).res = 0
    · rw [if_pos ⟨ht, ha, hr⟩, if_pos ⟨ht, ha, hr⟩, if_pos hr]
    · rw [if_neg (fun h => hr h.2.2), if_neg (fun h => hr h.2.2), if_neg hr]; omega
  have hmono := os_mono v.good.1 0 h 64 (by omega) hh
  have hrb := rs_bd v.good.1 0 64 (by omega)
  have hob := os_bd v.good.1 0 64 (by omega)
  have hop := v.op
  unfold goodf at hg
  have hd : d ≤ 100000 := by
    by_cases hr : (s.fs h).res = 0
    · have := h2 hr
      unfold co at hmono
      rw [if_pos ⟨ht, ha, hr⟩] at hmono
      omega
    · have := h1 (by omega)
      omega
  have hat : ∀ k, ((s.setF h { s.fs h with bu := d }).fs k).th = (s.fs k).th ∧ ((s.setF h { s.fs h with bu := d }).fs k).res = (s.fs k).res ∧ ((s.setF h { s.fs h with bu := d }).fs k).acc = (s.fs k).acc := by
    intro k
    by_cases e : k = h
    · subst e; rw [setF_at]; exact ⟨rfl, rfl, rfl⟩
    · show (put s.fs h _ k).th = _ ∧ (put s.fs h _ k).res = _ ∧ (put s.fs h _ k).acc = _
      rw [put_ne _ _ _ _ e]; exact ⟨rfl, rfl, rfl⟩
  have hbu : ∀ k, k ≠ h → ((s.setF h { s.fs h with bu := d }).fs k).bu = (s.fs k).bu := fun k e => by
    show (put s.fs h _ k).bu = _
    rw [put_ne _ _ _ _ e]
  refine ⟨⟨good_setF v.good h _ ⟨hg.1, hg.2.1, hg.2.2.1, h0, hd⟩, v.ac, fun k hk hkt => ?_, fun k hk hkt => ?_, fun k hk hkt hkr => ?_, ?_⟩, fun k => ⟨(hat k).1, (hat k).2.1⟩, hrs⟩
  · rw [(hat k).2.2]; exact v.kn k hk ((hat k).1 ▸ hkt)
  · rw [(hat k).1] at hkt
    have e : k ≠ h := fun e => by rw [e, ht] at hkt; cases hkt
    rw [(hat k).2.1, hbu k e]
    exact v.un k hk hkt
  · rw [(hat k).1] at hkt
    rw [(hat k).2.1] at hkr ⊢
    by_cases e : k = h
    · subst e; rw [setF_at]; exact h1 hkr
    · rw [hbu k e]; exact v.le k hk hkt hkr
  · rw [hrs, hos]
    by_cases hr : (s.fs h).res = 0
    · rw [if_pos hr]; have := h2 hr; omega
    · rw [if_neg hr]; omega

/-- Begin, of whichever function. -/
theorem begin_step (b : Nat) {s : Lg} {L : Int} {n : Nat} (v : Inv s L n) (hL : L ≤ 1000) (g : Nat) (hg : g < 64) (w : World) (q : Lq w b s) :
    Calls Try.prog 12 #[.pointer (some ⟨b, 0, none⟩), .int .i64 g] w fun e w' => ∃ t s', e = .returned (.bool t) ∧ Lq w' b s' ∧ Kept (fun x => x = b) w w' ∧ Inv s' L n ∧ Same s s' ∧ ∀ h, h ≠ g → (s'.fs h).bu = (s.fs h).bu := by
  cases ht : (s.fs g).th
  · exact (begin_f0 b s g hg ht w q).mono fun e w' ⟨h, k⟩ => ⟨false, s, h, q.below k, Kept.of_below k, v, Same.refl s, fun _ _ => rfl⟩
  · by_cases ha : askR s g = 0
    · refine (begin_t b s v.good g hg ht ha w q).mono fun e w' ⟨h, k1, k2⟩ => ?_
      have hgf := v.good.1 g hg
      unfold goodf at hgf
      have hac := (v.kn g hg ht).1
      have hlim : (s.ac (s.fs g).acc).lim = L := by rw [hac, v.ac]
      unfold askR at ha
      rw [hlim, hac] at ha
      obtain ⟨i1, i2⟩ := inv_turn v hL hg ht ((s.fs g).bu + 1) (by omega) (fun hr => by
        by_cases h3 : (s.fs g).res ≤ (s.fs g).bu
        · rw [if_pos ⟨hr, h3⟩] at ha; omega
        · omega) (fun hr => by
        rw [if_neg (by omega)] at ha
        split at ha
        · omega
        · split at ha
          · omega
          · rename_i h4 h5
            have : ¬ (L - rs s.fs 0 64 ≤ os s.fs 0 64) := fun h => h5 ⟨hr, h⟩
            omega)
      refine ⟨true, _, h, k1, k2, i1, i2, fun x hx => ?_⟩
      show (put s.fs g _ x).bu = _
      rw [put_ne _ _ _ _ hx]
    · exact (begin_f b s v.good g hg ht ha w q).mono fun e w' ⟨h, k⟩ => ⟨false, s, h, q.below k, Kept.of_below k, v, Same.refl s, fun _ _ => rfl⟩

/-- End, of whichever function. -/
theorem end_step (b : Nat) {s : Lg} {L : Int} {n : Nat} (v : Inv s L n) (hL : L ≤ 1000) (g : Nat) (hg : g < 64) (w : World) (q : Lq w b s) :
    Calls Try.prog 13 #[.pointer (some ⟨b, 0, none⟩), .int .i64 g] w fun e w' => ∃ t s', e = .returned (.bool t) ∧ Lq w' b s' ∧ Kept (fun x => x = b) w w' ∧ Inv s' L n ∧ Same s s' := by
  by_cases hc : (s.fs g).th = false ∨ (s.fs g).bu = 0
  · exact (end_f b s g hg hc w q).mono fun e w' ⟨h, k⟩ => ⟨false, s, h, k ▸ q, k ▸ Kept.refl _ _, v, Same.refl s⟩
  · have ht : (s.fs g).th = true := by cases h : (s.fs g).th; exact absurd (.inl h) hc; rfl
    have hb : (s.fs g).bu ≠ 0 := fun h => hc (.inr h)
    have hgf := v.good.1 g hg
    refine (end_t b s g hg hgf ht hb w q).mono fun e w' ⟨h, k1, k2⟩ => ?_
    unfold goodf at hgf
    have hop := v.op
    have hle := v.le g hg ht
    obtain ⟨i1, i2⟩ := inv_turn v hL hg ht ((s.fs g).bu - 1) (by omega) (fun hr => by have := hle hr; omega) (fun hr => by omega)
    exact ⟨true, _, h, k1, k2, i1, i2⟩

/-- Begin of a function for which enough is reserved. -/
theorem begin_res (b : Nat) {s : Lg} {L : Int} {n : Nat} (v : Inv s L n) (hL : L ≤ 1000) (g : Nat) (hg : g < 64) (ht : (s.fs g).th = true) (hr : 0 < (s.fs g).res) (hb : (s.fs g).bu < (s.fs g).res) (w : World) (q : Lq w b s) :
    Calls Try.prog 12 #[.pointer (some ⟨b, 0, none⟩), .int .i64 g] w fun e w' => ∃ s', e = .returned (.bool true) ∧ Lq w' b s' ∧ Kept (fun x => x = b) w w' ∧ Inv s' L n ∧ Same s s' ∧ (s'.fs g).bu = (s.fs g).bu + 1 := by
  have ha := ask_res v hg ht hr hb
  refine (begin_t b s v.good g hg ht ha w q).mono fun e w' ⟨h, k1, k2⟩ => ?_
  have hgf := v.good.1 g hg
  unfold goodf at hgf
  obtain ⟨i1, i2⟩ := inv_turn v hL hg ht ((s.fs g).bu + 1) (by omega) (fun _ => by omega) (fun h => by omega)
  exact ⟨_, h, k1, k2, i1, i2, by rw [setF_at]⟩

/-- The functions are set, one by one. -/
structure Pre (s : Lg) (L : Int) (i : Nat) : Prop where
  inv : Inv s L i
  zero : ∀ h, (s.fs h).bu = 0
  os0 : os s.fs 0 64 = 0
theorem pre0 {L : Int} (h0 : 0 ≤ L) (h1 : L ≤ 1000) : Pre (l0.setA 0 ⟨true, L⟩) L 0 :=
  ⟨⟨good_setA good_l0 0 ⟨true, L⟩ ⟨h0, h1⟩, rfl, (fun h hh ht => by cases ht), (fun h hh ht => ⟨rfl, rfl⟩), (fun h hh ht => by cases ht), by show os l0.fs 0 64 ≤ L - rs l0.fs 0 64; rw [os_l0, rs_l0]; omega⟩, fun h => rfl, os_l0 0 64⟩
theorem pre_un {s : Lg} {L : Int} {i : Nat} (p : Pre s L i) (hi : i < 64) : (s.fs i).th = false := by
  cases h : (s.fs i).th
  · rfl
  · have := (p.inv.kn i hi h).2; omega
theorem pre_more {s : Lg} {L : Int} {i : Nat} (p : Pre s L i) : Pre s L (i + 1) :=
  ⟨⟨p.inv.good, p.inv.ac, fun h hh ht => ⟨(p.inv.kn h hh ht).1, by have := (p.inv.kn h hh ht).2; omega⟩, p.inv.un, p.inv.le, p.inv.op⟩, p.zero, p.os0⟩
theorem rs_new {s : Lg} {L : Int} {i : Nat} (p : Pre s L i) (hi : i < 64) (r : Int) : rs (s.setF i ⟨true, 0, r, 0⟩).fs 0 64 = rs s.fs 0 64 + r := by
  show rs (put s.fs i _) 0 64 = _
  rw [rs_put, if_pos hi]
  have hu := pre_un p hi
  simp [cr, hu]
theorem pre_new {s : Lg} {L : Int} {i : Nat} (p : Pre s L i) (hi : i < 64) (r : Int) (h0 : 0 ≤ r) (h1 : r ≤ 1000) (hr : rs s.fs 0 64 + r ≤ L) : Pre (s.setF i ⟨true, 0, r, 0⟩) L (i + 1) := by
  have hu := pre_un p hi
  have hos : os (s.setF i ⟨true, 0, r, 0⟩).fs 0 64 = 0 := by
    show os (put s.fs i _) 0 64 = _
    rw [os_put, if_pos hi, p.os0]
    simp [co, hu]
  refine ⟨⟨good_setF p.inv.good i _ ⟨(by decide : (0 : Nat) < 16), h0, h1, (by decide : (0 : Int) ≤ 0), (by decide : (0 : Int) ≤ 100000)⟩, p.inv.ac, fun h hh ht => ?_, fun h hh ht => ?_, fun h hh ht hres => ?_, ?_⟩, fun h => ?_, hos⟩
  · by_cases e : h = i
    · subst e; rw [setF_at]; exact ⟨rfl, by omega⟩
    · change (put s.fs i _ h).th = true at ht
      show (put s.fs i _ h).acc = 0 ∧ _
      rw [put_ne _ _ _ _ e] at ht ⊢
      exact ⟨(p.inv.kn h hh ht).1, by have := (p.inv.kn h hh ht).2; omega⟩
  · by_cases e : h = i
    · subst e; rw [setF_at] at ht; cases ht
    · change (put s.fs i _ h).th = false at ht
      show (put s.fs i _ h).res = 0 ∧ (put s.fs i _ h).bu = 0
      rw [put_ne _ _ _ _ e] at ht ⊢
      exact p.inv.un h hh ht
  · by_cases e : h = i
    · subst e; rw [setF_at]; exact h0
    · change (put s.fs i _ h).th = true at ht
      change 0 < (put s.fs i _ h).res at hres
      show (put s.fs i _ h).bu ≤ (put s.fs i _ h).res
      rw [put_ne _ _ _ _ e] at ht hres ⊢
      exact p.inv.le h hh ht hres
  · rw [hos, rs_new p hi]; omega
  · by_cases e : h = i
    · subst e; rw [setF_at]
    · show (put s.fs i _ h).bu = 0
      rw [put_ne _ _ _ _ e]
      exact p.zero h

/-- What is held for each: what was set. -/
def held (s : Lg) (h : Nat) : Int := if (s.fs h).th then (s.fs h).res else 0

/-- A function is set: it is there, or there is no room. -/
theorem set_step (b : Nat) {s : Lg} {L : Int} {i : Nat} (p : Pre s L i) (hi : i < 64) (r : Int) (h0 : 0 ≤ r) (h1 : r ≤ 1000) (w : World) (q : Lq w b s) :
    Calls Try.prog 11 #[.pointer (some ⟨b, 0, none⟩), .int .i64 i, .int .i64 0, .int .i64 r] w fun e w' => ∃ k s', e = .returned (.int .i64 k) ∧ Lq w' b s' ∧ Kept (fun x => x = b) w w' ∧ Pre s' L (i + 1) ∧ (∀ h, h ≠ i → s'.fs h = s.fs h) ∧
      ((k = 0 ∧ (s'.fs i).th = true ∧ (s'.fs i).res = r ∧ rs s'.fs 0 64 = rs s.fs 0 64 + r) ∨ (k = 4 ∧ (s'.fs i).th = false ∧ rs s'.fs 0 64 = rs s.fs 0 64)) := by
  have hu := pre_un p hi
  have hun := p.inv.un i hi hu
  have hth : (s.ac 0).th = true := by rw [p.inv.ac]
  have hlim : (s.ac 0).lim = L := by rw [p.inv.ac]
  by_cases hr : rs s.fs 0 64 + r ≤ L
  · have c := setF_t b s p.inv.good i 0 hi (by omega) r h0 h1 hth (.inl hu) (by rw [hun.1, hlim]; omega) w q
    rw [hun.2] at c
    refine c.mono fun e w' ⟨h, k1, k2⟩ => ⟨0, _, h, k1, k2, pre_new p hi r h0 h1 hr, fun x hx => ?_, .inl ⟨rfl, by rw [setF_at], by rw [setF_at], rs_new p hi r⟩⟩
    show put s.fs i _ x = _
    rw [put_ne _ _ _ _ hx]
  · have c := setF_f b s p.inv.good i 0 hi (by omega) r h0 h1 hth (.inl hu) (by rw [hun.1, hlim]; omega) w q
    exact c.mono fun e w' ⟨h, k⟩ => ⟨4, s, h, q.below k, Kept.of_below k, pre_more p, fun _ _ => rfl, .inr ⟨rfl, hu, rfl⟩⟩

/-- A made slice's block. -/
theorem made_block {w : World} {base : Nat} {e : TypeId} {g n : Nat} {z : Value} (h : w.ownsRow base e 1 (.slice (some ⟨g, 0, none⟩) n n) n (madeCells #[z] (n * 1)).toList) : w.heap[g]? = some (.cells (List.replicate n z).toArray e (0, 0)) := by
  rcases h.2 with ⟨h1, _⟩ | ⟨g', cap, cur, h1, _, hb, _, _, hsz, ht⟩
  · cases h1
  · cases h1
    rw [hb]
    congr 2
    have : cur.toList = List.replicate n z := by
      rw [List.take_of_length_le (by simp [hsz])] at ht
      rw [ht]
      apply List.ext_getElem
      · simp [madeCells]
      · intro j h1 h2
        simp [madeCells]
        rw [Nat.mod_one]; rfl
    rw [← this]
end Go.Proofs.Ytjibcecekjmnlaa
