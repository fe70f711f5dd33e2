/- Events as bytes, in plain words: what is written, what is read, and that one is the other. -/
import Derived.Test.YtbdkbhicjbaffaaWalks2
namespace Go.Proofs.Ytbdkbhicjbaffaa
open WirePure
set_option linter.unusedVariables false

/-- An event: its kind, and its nine numbers. -/
abbrev Evt := Fin 10 → Int
instance : DecidableEq Evt := fun f g => decidable_of_iff (∀ j, f j = g j) ⟨fun h => funext h, fun h j => congrFun h j⟩
def noev : Evt := fun _ => 0
def upd (f : Evt) (j : Fin 10) (x : Int) : Evt := fun i => if i = j then x else f i
/-- Where the numbers of a kind stand. -/
def parts (k : Int) : List (Fin 10) :=
  if k = 1 then [1, 2, 3, 4] else if k = 2 then [1, 5, 6, 7, 8, 9] else if k = 3 then [1, 3] else if 4 ≤ k ∧ k ≤ 9 then [1] else []

def most : Nat := 2147483647

/-- Can an event be written? -/
def right (f : Evt) : Prop := (0 ≤ f 0 ∧ f 0 ≤ 9) ∧ (∀ j ∈ parts (f 0), 0 ≤ f j ∧ f j ≤ 2147483647) ∧ ∀ j, j = 0 ∨ j ∈ parts (f 0) ∨ f j = 0
instance (f : Evt) : Decidable (right f) := by unfold right; exact inferInstance

theorem parts_cases (k : Int) : (k = 1 ∧ parts k = [1, 2, 3, 4]) ∨ (k = 2 ∧ parts k = [1, 5, 6, 7, 8, 9]) ∨ (k = 3 ∧ parts k = [1, 3]) ∨ ((4 ≤ k ∧ k ≤ 9) ∧ parts k = [1]) ∨ ((k ≤ 0 ∨ 9 < k) ∧ parts k = []) := by
  unfold parts
  by_cases h1 : k = 1
  · exact .inl ⟨h1, by simp [h1]⟩
  by_cases h2 : k = 2
  · exact .inr (.inl ⟨h2, by simp [h2]⟩)
  by_cases h3 : k = 3
  · exact .inr (.inr (.inl ⟨h3, by simp [h3]⟩))
  by_cases h4 : 4 ≤ k ∧ k ≤ 9
  · exact .inr (.inr (.inr (.inl ⟨h4, by simp [h1, h2, h3, h4]⟩)))
  · exact .inr (.inr (.inr (.inr ⟨by omega, by simp [h1, h2, h3, h4]⟩)))

theorem parts_nodup (k : Int) : (parts k).Nodup ∧ 0 ∉ parts k := by
  rcases parts_cases k with ⟨_, h⟩ | ⟨_, h⟩ | ⟨_, h⟩ | ⟨_, h⟩ | ⟨_, h⟩ <;> rw [h] <;> decide

theorem parts_len (k : Int) : (parts k).length ≤ 6 := by
  rcases parts_cases k with ⟨_, h⟩ | ⟨_, h⟩ | ⟨_, h⟩ | ⟨_, h⟩ | ⟨_, h⟩ <;> rw [h] <;> decide

/-- An event's bytes. -/
def encE (f : Evt) : List Nat := enc (f 0).toNat ++ (parts (f 0)).flatMap fun j => enc (f j).toNat

/-- The numbers that stand next, one for each place. -/
def rd (zs : List Nat) : List (Fin 10) → Evt → Nat → Nat → Evt × Nat × Nat
  | [], f, at_, e => (f, at_, e)
  | j :: ps, f, at_, e => rd zs ps (upd f j ((nxt e zs most at_).1 : Nat)) (nxt e zs most at_).2.1 (nxt e zs most at_).2.2

def ev0 (k : Int) : Evt := upd noev 0 k

/-- The event that stands at the beginning of bytes, how many it has, and why there is none. -/
def getR (zs : List Nat) : Evt × Nat × Nat :=
  rd zs (parts ((nxt 0 zs 9 0).1 : Nat)) (ev0 ((nxt 0 zs 9 0).1 : Nat)) (nxt 0 zs 9 0).2.1 (nxt 0 zs 9 0).2.2
def getE (zs : List Nat) : Evt × Nat × Nat := if (getR zs).2.2 = 0 then ((getR zs).1, (getR zs).2.1, 0) else (noev, 0, (getR zs).2.2)

theorem nxt_enc {zs pre rest : List Nat} {n mo : Nat} (hz : zs = pre ++ (enc n ++ rest)) (hn : n ≤ mo) (hm : n < 2 ^ 64) : nxt 0 zs mo pre.length = (n, (pre ++ enc n).length, 0) := by
  subst hz
  simp [nxt, res, dec_enc0 hm rest, hn]

theorem nxt_cut {zs pre : List Nat} {n mo j : Nat} (hz : zs = pre ++ (enc n).take j) (hj : j < (enc n).length) (hm : n < 2 ^ 64) : nxt 0 zs mo pre.length = (0, pre.length, 5) := by
  subst hz
  simp [nxt, res, dec_cut 10 0 n j (by omega) hj]

theorem nxt_ok {zs : List Nat} {mo at_ n a : Nat} (hb : ∀ c ∈ zs, c < 256) (hat : at_ ≤ zs.length) (h : nxt 0 zs mo at_ = (n, a, 0)) :
    n ≤ mo ∧ at_ < a ∧ a ≤ zs.length ∧ zs.take a = zs.take at_ ++ enc n := by
  unfold nxt at h
  rw [if_pos rfl] at h
  unfold res at h
  cases hd : dec 0 (zs.drop at_) with
  | none => rw [hd] at h; simp at h
  | some x =>
    obtain ⟨m, k⟩ := x
    have h1 := dec_pos _ _ _ _ hd
    have h2 := enc_dec0 (fun c hc => hb c (List.mem_of_mem_drop hc)) hd
    rw [hd] at h
    simp only at h
    split at h
    · rename_i hmo
      obtain ⟨rfl, rfl⟩ : m = n ∧ at_ + k = a := by simpa using h
      simp at h1
      refine ⟨hmo, by omega, by omega, ?_⟩
      rw [List.take_add, h2.2.1]
    · simp at h

theorem nxt_err {e : Nat} {zs : List Nat} {mo at_ : Nat} : (nxt e zs mo at_).2.2 = 0 → e = 0 := by
  intro h
  unfold nxt at h
  split at h
  · assumption
  · simpa using h

theorem nxt_errs {e : Nat} {zs : List Nat} {mo at_ : Nat} (he : e = 0 ∨ e = 1 ∨ e = 5) : (nxt e zs mo at_).2.2 = 0 ∨ (nxt e zs mo at_).2.2 = 1 ∨ (nxt e zs mo at_).2.2 = 5 := by
  unfold nxt
  split
  · unfold res
    split
    · simp
    · split <;> simp
  · simpa using he

theorem nxt_stay {e : Nat} {zs : List Nat} {mo at_ : Nat} (he : e ≠ 0) : nxt e zs mo at_ = (0, at_, e) := by
  unfold nxt; rw [if_neg he]

theorem rd_err (zs : List Nat) : ∀ (ps : List (Fin 10)) (f : Evt) (at_ e : Nat), (e = 0 ∨ e = 1 ∨ e = 5) → (rd zs ps f at_ e).2.2 = 0 ∨ (rd zs ps f at_ e).2.2 = 1 ∨ (rd zs ps f at_ e).2.2 = 5 := by
  intro ps
  induction ps with
  | nil => intro f at_ e h; exact h
  | cons j ps ih => intro f at_ e h; exact ih _ _ _ (nxt_errs h)

theorem rd_stay (zs : List Nat) : ∀ (ps : List (Fin 10)) (f : Evt) (at_ e : Nat), e ≠ 0 → (rd zs ps f at_ e).2.2 = e := by
  intro ps
  induction ps with
  | nil => intro f at_ e h; rfl
  | cons j ps ih => intro f at_ e h; unfold rd; rw [nxt_stay h]; exact ih _ _ _ h

theorem rd_enc (zs rest : List Nat) (g : Evt) : ∀ (ps : List (Fin 10)) (f : Evt) (pre : List Nat), zs = pre ++ ((ps.flatMap fun j => enc (g j).toNat) ++ rest) → (∀ j ∈ ps, 0 ≤ g j ∧ g j ≤ 2147483647) →
    rd zs ps f pre.length 0 = (fun i => if i ∈ ps then g i else f i, (pre ++ ps.flatMap fun j => enc (g j).toNat).length, 0) := by
  intro ps
  induction ps with
  | nil => intro f pre h hg; simp [rd]
  | cons j ps ih =>
    intro f pre h hg
    have hj := hg j (List.mem_cons_self ..)
    have hn : zs = pre ++ (enc (g j).toNat ++ ((ps.flatMap fun j => enc (g j).toNat) ++ rest)) := by rw [h]; simp
    unfold rd
    rw [nxt_enc hn (by unfold most; omega) (by omega)]
    dsimp only
    rw [ih _ (pre ++ enc (g j).toNat) (by rw [hn]; simp) (fun i hi => hg i (List.mem_cons_of_mem _ hi))]
    refine Prod.ext ?_ (Prod.ext (by simp) rfl)
    funext i
    dsimp only [upd]
    by_cases h1 : i ∈ ps
    · simp [h1]
    · by_cases h2 : i = j
      · subst h2; simp [h1]; omega
      · simp [h1, h2]

theorem getE_enc {f : Evt} (h : right f) (rest : List Nat) : getE (encE f ++ rest) = (f, (encE f).length, 0) := by
  obtain ⟨h0, hp, hz⟩ := h
  have hn : encE f ++ rest = [] ++ (enc (f 0).toNat ++ (((parts (f 0)).flatMap fun j => enc (f j).toNat) ++ rest)) := by simp [encE]
  have hk := nxt_enc (mo := 9) hn (by omega) (by omega)
  have hk' : nxt 0 (encE f ++ rest) 9 0 = ((f 0).toNat, (enc (f 0).toNat).length, 0) := by simpa using hk
  have hc : (((f 0).toNat : Nat) : Int) = f 0 := by omega
  have hr := rd_enc (encE f ++ rest) rest f (parts (f 0)) (ev0 (f 0)) (enc (f 0).toNat) (by simp [encE]) hp
  have : getR (encE f ++ rest) = (f, (encE f).length, 0) := by
    unfold getR
    rw [hk']
    dsimp only
    rw [hc, hr]
    refine Prod.ext ?_ (Prod.ext (by simp [encE]) rfl)
    funext i
    dsimp only [ev0, upd, noev]
    rcases hz i with h1 | h1 | h1
    · subst h1; simp [(parts_nodup (f 0)).2]
    · simp [h1]
    · by_cases h2 : i ∈ parts (f 0)
      · simp [h2]
      · by_cases h3 : i = 0
        · subst h3; simp [h2]
        · simp [h2, h3, h1]
  unfold getE
  rw [this]
  rfl

theorem rd_ok (zs : List Nat) (hb : ∀ c ∈ zs, c < 256) : ∀ (ps : List (Fin 10)), ps.Nodup → ∀ (f : Evt) (at_ : Nat) (g : Evt) (a : Nat), at_ ≤ zs.length → rd zs ps f at_ 0 = (g, a, 0) →
    at_ ≤ a ∧ a ≤ zs.length ∧ (∀ j ∈ ps, 0 ≤ g j ∧ g j ≤ 2147483647) ∧ (∀ j, j ∉ ps → g j = f j) ∧ zs.take a = zs.take at_ ++ ps.flatMap fun j => enc (g j).toNat := by
  intro ps
  induction ps with
  | nil =>
    intro _ f at_ g a hat h
    obtain ⟨rfl, rfl⟩ : f = g ∧ at_ = a := by simpa [rd] using h
    exact ⟨Nat.le_refl _, hat, by simp, fun _ _ => rfl, by simp⟩
  | cons j ps ih =>
    intro hnd f at_ g a hat h
    obtain ⟨hnj, hnd⟩ := List.nodup_cons.1 hnd
    unfold rd at h
    obtain ⟨xx, hx⟩ : ∃ x, nxt 0 zs most at_ = x := ⟨_, rfl⟩
    obtain ⟨n, a1, e1⟩ := xx
    rw [hx] at h
    dsimp only at h
    by_cases he : e1 = 0
    · subst he
      obtain ⟨hn, h1, h2, h3⟩ := nxt_ok hb hat hx
      obtain ⟨k1, k2, k3, k4, k5⟩ := ih hnd _ _ _ _ h2 h
      have hgj : g j = (n : Int) := by rw [k4 j hnj]; simp [upd]
      refine ⟨by omega, k2, ?_, ?_, ?_⟩
      · intro i hi
        rcases List.mem_cons.1 hi with rfl | hi
        · rw [hgj]; unfold most at hn; omega
        · exact k3 i hi
      · intro i hi
        have : i ≠ j ∧ i ∉ ps := by simpa using hi
        rw [k4 i this.2]; simp [upd, this.1]
      · rw [k5, h3, List.flatMap_cons, hgj]; simp
    · have := rd_stay zs ps (upd f j (n : Nat)) a1 e1 he
      rw [h] at this
      exact absurd this.symm he

theorem getE_ok {zs : List Nat} {f : Evt} {n : Nat} (hb : ∀ c ∈ zs, c < 256) (h : getE zs = (f, n, 0)) : right f ∧ 1 ≤ n ∧ n ≤ zs.length ∧ zs.take n = encE f := by
  unfold getE at h
  split at h
  · rename_i he
    obtain ⟨h1, h2⟩ : (getR zs).1 = f ∧ (getR zs).2.1 = n := by simpa using h
    have hr : getR zs = (f, n, 0) := Prod.ext h1 (Prod.ext h2 he)
    unfold getR at hr
    obtain ⟨xx, hx⟩ : ∃ x, nxt 0 zs 9 0 = x := ⟨_, rfl⟩
    obtain ⟨k, a, e⟩ := xx
    rw [hx] at hr
    dsimp only at hr
    have he0 : e = 0 := by
      by_cases he : e = 0
      · exact he
      · have := rd_stay zs (parts (k : Nat)) (ev0 (k : Nat)) a e he
        rw [hr] at this; exact this.symm
    subst he0
    obtain ⟨q1, q2, q3, q4⟩ := nxt_ok hb (Nat.zero_le _) hx
    obtain ⟨r1, r2, r3, r4, r5⟩ := rd_ok zs hb _ (parts_nodup _).1 _ _ _ _ q3 hr
    have hf0 : f 0 = (k : Int) := by rw [r4 0 (parts_nodup _).2]; simp [ev0, upd]
    refine ⟨⟨by omega, by rw [hf0]; exact r3, ?_⟩, by omega, r2, ?_⟩
    · intro j
      by_cases hj0 : j = 0
      · exact .inl hj0
      · by_cases hj : j ∈ parts (f 0)
        · exact .inr (.inl hj)
        · refine .inr (.inr ?_)
          rw [r4 j (by rw [← hf0]; exact hj)]; simp [ev0, upd, noev, hj0]
    · rw [r5, q4, encE, hf0]; simp
  · have : (getR zs).2.2 = 0 := (Prod.ext_iff.1 (Prod.ext_iff.1 h).2).2
    contradiction

theorem getE_err {zs : List Nat} {f : Evt} {n e : Nat} (h : getE zs = (f, n, e)) (he : e ≠ 0) : f = noev ∧ n = 0 ∧ (e = 5 ∨ e = 1) := by
  unfold getE at h
  split at h
  · exact absurd (Prod.ext_iff.1 (Prod.ext_iff.1 h).2).2.symm he
  · rename_i hne
    obtain ⟨rfl, rfl, rfl⟩ : noev = f ∧ 0 = n ∧ (getR zs).2.2 = e := by simpa using h
    refine ⟨rfl, rfl, ?_⟩
    have := rd_err zs (parts ((nxt 0 zs 9 0).1 : Nat)) (ev0 ((nxt 0 zs 9 0).1 : Nat)) (nxt 0 zs 9 0).2.1 (nxt 0 zs 9 0).2.2 (nxt_errs (.inl rfl))
    change (getR zs).2.2 = 0 ∨ (getR zs).2.2 = 1 ∨ (getR zs).2.2 = 5 at this
    omega

theorem rd_cut (zs : List Nat) (g : Evt) : ∀ (ps : List (Fin 10)) (f : Evt) (pre : List Nat) (j : Nat), zs = pre ++ (ps.flatMap fun j => enc (g j).toNat).take j → j < (ps.flatMap fun j => enc (g j).toNat).length → (∀ j ∈ ps, 0 ≤ g j ∧ g j ≤ 2147483647) →
    (rd zs ps f pre.length 0).2.2 = 5 := by
  intro ps
  induction ps with
  | nil => intro f pre j h hj; simp at hj
  | cons i ps ih =>
    intro f pre j h hj hg
    have hi := hg i (List.mem_cons_self ..)
    rw [List.flatMap_cons] at h hj
    rw [List.take_append] at h
    unfold rd
    by_cases hl : j < (enc (g i).toNat).length
    · rw [show j - (enc (g i).toNat).length = 0 by omega, List.take_zero, List.append_nil] at h
      rw [nxt_cut h hl (by omega)]
      dsimp only
      exact rd_stay _ _ _ _ _ (by omega)
    · rw [List.take_of_length_le (by omega)] at h
      rw [nxt_enc h (by unfold most; omega) (by omega)]
      refine ih _ (pre ++ enc (g i).toNat) (j - (enc (g i).toNat).length) ?_ ?_ (fun i hi => hg i (List.mem_cons_of_mem _ hi))
      · rw [h]; simp
      · rw [List.length_append] at hj; omega

theorem getE_cut {f : Evt} (h : right f) {k : Nat} (hk : k < (encE f).length) : getE ((encE f).take k) = (noev, 0, 5) := by
  obtain ⟨h0, hp, hz⟩ := h
  have hc : (((f 0).toNat : Nat) : Int) = f 0 := by omega
  have : (getR ((encE f).take k)).2.2 = 5 := by
    unfold getR
    by_cases hl : k < (enc (f 0).toNat).length
    · have hn : (encE f).take k = [] ++ (enc (f 0).toNat).take k := by
        unfold encE; rw [List.take_append, show k - (enc (f 0).toNat).length = 0 by omega]; simp
      have hx := nxt_cut (mo := 9) hn hl (by omega)
      have hx' : nxt 0 ((encE f).take k) 9 0 = (0, 0, 5) := by simpa using hx
      rw [hx']
      dsimp only
      exact rd_stay _ _ _ _ _ (by omega)
    · have hn : (encE f).take k = enc (f 0).toNat ++ ((parts (f 0)).flatMap fun j => enc (f j).toNat).take (k - (enc (f 0).toNat).length) := by
        unfold encE; rw [List.take_append, List.take_of_length_le (by omega)]
      have hx := nxt_enc (zs := (encE f).take k) (pre := []) (mo := 9) (rest := ((parts (f 0)).flatMap fun j => enc (f j).toNat).take (k - (enc (f 0).toNat).length)) (n := (f 0).toNat) (by rw [hn]; rfl) (by omega) (by omega)
      have hx' : nxt 0 ((encE f).take k) 9 0 = ((f 0).toNat, (enc (f 0).toNat).length, 0) := by simpa using hx
      rw [hx']
      dsimp only
      rw [hc]
      refine rd_cut _ f _ _ _ _ hn ?_ hp
      unfold encE at hk; rw [List.length_append] at hk; omega
  unfold getE
  rw [if_neg (by omega), this]

/-- The events of which bytes are made, n ahead; where they end, and why. -/
def allE : Nat → List Nat → Nat → List Evt × Nat × Nat
  | 0, _, _ => ([], 0, 0)
  | fuel + 1, zs, c =>
    if zs = [] then ([], 0, 0)
    else if (getE zs).2.2 ≠ 0 then ([], 0, (getE zs).2.2)
    else if c = 16384 then ([], 0, 6)
    else ((getE zs).1 :: (allE fuel (zs.drop (getE zs).2.1) (c + 1)).1, (getE zs).2.1 + (allE fuel (zs.drop (getE zs).2.1) (c + 1)).2.1, (allE fuel (zs.drop (getE zs).2.1) (c + 1)).2.2)

def allB (zs : List Nat) : List Evt × Nat × Nat := allE zs.length zs 0

theorem encE_pos (f : Evt) : 1 ≤ (encE f).length := by unfold encE; have := enc_len_pos (f 0).toNat; simp; omega

theorem encAll_le (l : List Evt) : l.length ≤ (l.flatMap encE).length := by
  induction l with
  | nil => simp
  | cons f l ih => have := encE_pos f; simp [List.flatMap_cons]; simp at ih; omega

theorem allE_enc : ∀ (l : List Evt) (fuel c : Nat), (∀ f ∈ l, right f) → l.length + c ≤ 16384 → (l.flatMap encE).length ≤ fuel → allE fuel (l.flatMap encE) c = (l, (l.flatMap encE).length, 0) := by
  intro l
  induction l with
  | nil => intro fuel c _ _ _; cases fuel <;> simp [allE]
  | cons f l ih =>
    intro fuel c hr hl hf
    have hpos := encE_pos f
    rw [List.flatMap_cons] at hf ⊢
    rw [List.length_append] at hf
    obtain ⟨fuel, rfl⟩ : ∃ n, fuel = n + 1 := ⟨fuel - 1, by omega⟩
    have hg := getE_enc (hr f (List.mem_cons_self ..)) (l.flatMap encE)
    have hne : encE f ++ l.flatMap encE ≠ [] := fun h => by rw [List.append_eq_nil_iff] at h; rw [h.1] at hpos; simp at hpos
    simp only [List.length_cons] at hl
    unfold allE
    rw [if_neg hne, hg]
    dsimp only
    rw [if_neg (by omega), if_neg (by omega), List.drop_left, ih fuel (c + 1) (fun g h => hr g (List.mem_cons_of_mem _ h)) (by omega) (by omega)]
    simp

theorem allE_many : ∀ (l : List Evt) (fuel c : Nat), (∀ f ∈ l, right f) → c ≤ 16384 → 16384 < l.length + c → (l.flatMap encE).length ≤ fuel →
    allE fuel (l.flatMap encE) c = (l.take (16384 - c), ((l.take (16384 - c)).flatMap encE).length, 6) := by
  intro l
  induction l with
  | nil => intro fuel c _ _ h; simp at h; omega
  | cons f l ih =>
    intro fuel c hr hc hl hf
    have hpos := encE_pos f
    rw [List.flatMap_cons] at hf ⊢
    rw [List.length_append] at hf
    obtain ⟨fuel, rfl⟩ : ∃ n, fuel = n + 1 := ⟨fuel - 1, by omega⟩
    have hg := getE_enc (hr f (List.mem_cons_self ..)) (l.flatMap encE)
    have hne : encE f ++ l.flatMap encE ≠ [] := fun h => by rw [List.append_eq_nil_iff] at h; rw [h.1] at hpos; simp at hpos
    simp only [List.length_cons] at hl
    unfold allE
    rw [if_neg hne, hg]
    dsimp only
    rw [if_neg (by omega)]
    by_cases h : c = 16384
    · rw [if_pos h, h]; simp
    · rw [if_neg h, List.drop_left, ih fuel (c + 1) (fun g h => hr g (List.mem_cons_of_mem _ h)) (by omega) (by omega) (by omega)]
      rw [show 16384 - c = (16384 - (c + 1)) + 1 by omega, List.take_succ_cons, List.flatMap_cons]
      simp

theorem allE_ok : ∀ (fuel : Nat) (zs : List Nat) (c : Nat) (l : List Evt) (n e : Nat), (∀ x ∈ zs, x < 256) → zs.length ≤ fuel → c + zs.length ≤ 16384 → allE fuel zs c = (l, n, e) →
    (∀ f ∈ l, right f) ∧ n ≤ zs.length ∧ l.flatMap encE = zs.take n ∧ (e = 0 → n = zs.length) ∧ (e ≠ 0 → n < zs.length ∧ getE (zs.drop n) = (noev, 0, e) ∧ (e = 5 ∨ e = 1)) := by
  intro fuel
  induction fuel with
  | zero =>
    intro zs c l n e hb hf hc h
    obtain rfl : zs = [] := List.length_eq_zero_iff.1 (by omega)
    obtain ⟨rfl, rfl, rfl⟩ : [] = l ∧ 0 = n ∧ 0 = e := by simpa [allE] using h
    simp
  | succ fuel ih =>
    intro zs c l n e hb hf hc h
    unfold allE at h
    by_cases hz : zs = []
    · subst hz
      obtain ⟨rfl, rfl, rfl⟩ : [] = l ∧ 0 = n ∧ 0 = e := by simpa using h
      simp
    · have hzl : 1 ≤ zs.length := by cases zs with | nil => exact absurd rfl hz | cons _ _ => simp
      rw [if_neg hz] at h
      obtain ⟨xx, hx⟩ : ∃ x, getE zs = x := ⟨_, rfl⟩
      obtain ⟨f, k, e1⟩ := xx
      rw [hx] at h
      dsimp only at h
      by_cases he : e1 = 0
      · subst he
        obtain ⟨q1, q2, q3, q4⟩ := getE_ok hb hx
        rw [if_neg (by omega), if_neg (by omega)] at h
        obtain ⟨xx, hy⟩ : ∃ x, allE fuel (zs.drop k) (c + 1) = x := ⟨_, rfl⟩
        obtain ⟨l2, n2, e2⟩ := xx
        rw [hy] at h
        obtain ⟨rfl, rfl, rfl⟩ : f :: l2 = l ∧ k + n2 = n ∧ e2 = e := by simpa using h
        obtain ⟨r1, r2, r3, r4, r5⟩ := ih (zs.drop k) (c + 1) l2 n2 e2 (fun x hx => hb x (List.mem_of_mem_drop hx)) (by simp; omega) (by simp; omega) hy
        simp at r2 r4 r5
        refine ⟨?_, by omega, ?_, fun h => by have := r4 h; omega, fun h => ?_⟩
        · intro g hg
          rcases List.mem_cons.1 hg with rfl | hg
          · exact q1
          · exact r1 g hg
        · rw [List.flatMap_cons, r3, ← q4, List.take_add]
        · obtain ⟨s1, s2, s3⟩ := r5 h
          exact ⟨by omega, s2, s3⟩
      · rw [if_pos he] at h
        obtain ⟨rfl, rfl, rfl⟩ : [] = l ∧ 0 = n ∧ e1 = e := by simpa using h
        obtain ⟨r1, r2, r3⟩ := getE_err hx he
        subst r1; subst r2
        exact ⟨by simp, by omega, by simp, fun h => absurd h he, fun _ => ⟨by omega, by simpa using hx, r3⟩⟩
end Go.Proofs.Ytbdkbhicjbaffaa
