/- Heaps of the same keys with the same values give the same values, in the same order. -/
import Derived.Test.YtbnpipfmeekbdaaTwo
namespace Go.Proofs.Ytbnpipfmeekbdaa
open Go.RowKit Go.Kpt HeapPure
set_option linter.unusedVariables false

abbrev HGood (l : List (Int × Int)) : Prop := HeapPure.Good lt l

theorem inj_nodup {l : List (Int × Int)} (h : Inj l) : l.Nodup := by
  rw [List.Nodup, List.pairwise_iff_getElem]
  intro i j hi hj hij he
  have e1 : l[i]? = some (l[i].1, l[i].2) := List.getElem?_eq_getElem hi
  have e2 : l[j]? = some (l[i].1, l[i].2) := by rw [List.getElem?_eq_getElem hj, ← he]
  have := h i j _ _ _ e1 e2
  omega
theorem mem_get {l : List (Int × Int)} (h : Inj l) (x : Int × Int) : x ∈ l ↔ HeapPure.get l x.1 = some x.2 := by
  rw [get_eq_some h]
  exact List.mem_iff_getElem?
theorem perm_get {l m : List (Int × Int)} (hl : Inj l) (hm : Inj m) (h : ∀ k, HeapPure.get l k = HeapPure.get m k) : l.Perm m := by
  rw [List.perm_ext_iff_of_nodup (inj_nodup hl) (inj_nodup hm)]
  intro x
  rw [mem_get hl, mem_get hm, h]
theorem perm_dom {l : List (Int × Int)} (hl : Inj l) (n : Nat) (f : Nat → Int) (h : ∀ k, HeapPure.get l k = if 0 ≤ k ∧ k < (n : Int) then some (f k.toNat) else none) : l.Perm ((List.range n).map fun i : Nat => ((i : Int), f i)) := by
  have hnd : ((List.range n).map fun i : Nat => ((i : Int), f i)).Nodup := by
    rw [List.Nodup, List.pairwise_map]
    exact (List.nodup_range (n := n)).imp fun {a b} hab he => hab (by have h1 : ((a : Nat) : Int) = ((b : Nat) : Int) := congrArg Prod.fst he; omega)
  rw [List.perm_ext_iff_of_nodup (inj_nodup hl) hnd]
  intro x
  rw [mem_get hl, h]
  simp only [List.mem_map, List.mem_range]
  constructor
  · intro hx
    by_cases hc : 0 ≤ x.1 ∧ x.1 < (n : Int)
    · rw [if_pos hc] at hx
      refine ⟨x.1.toNat, by omega, Prod.ext (by show ((x.1.toNat : Nat) : Int) = x.1; omega) (Option.some.inj hx)⟩
    · rw [if_neg hc] at hx; cases hx
  · rintro ⟨i, hi, rfl⟩
    rw [if_pos (by constructor <;> simp <;> omega)]
    rfl
theorem len_dom {l : List (Int × Int)} (hl : Inj l) (n : Nat) (f : Nat → Int) (h : ∀ k, HeapPure.get l k = if 0 ≤ k ∧ k < (n : Int) then some (f k.toNat) else none) : l.length = n := by
  have := (perm_dom hl n f h).length_eq
  simpa using this

/-- The same values, as many times. -/
def Alikev (l m : List (Int × Int)) : Prop := (l.map Prod.snd).Perm (m.map Prod.snd)
theorem drop_perm {l : List (Int × Int)} (h : HGood l) (hl : 0 < l.length) : l.Perm ((kk l 0, vv l 0) :: drop lt l (kk l 0)) := by
  obtain ⟨h1, -⟩ := min_spec h hl
  have hd := drop_good ord_lt h (kk l 0)
  have hg := fun k' => drop_get ord_lt h (kk l 0) k'
  have hnd : ((kk l 0, vv l 0) :: drop lt l (kk l 0)).Nodup := by
    rw [List.nodup_cons]
    refine ⟨fun hm => ?_, inj_nodup hd.inj⟩
    rw [mem_get hd.inj, hg] at hm
    simp at hm
  rw [List.perm_ext_iff_of_nodup (inj_nodup h.inj) hnd]
  intro x
  rw [List.mem_cons, mem_get h.inj, mem_get hd.inj, hg]
  by_cases e : x.1 = kk l 0
  · rw [if_pos e, e, h1]
    constructor
    · intro hx; left; exact Prod.ext e (Option.some.inj hx).symm
    · rintro (hx | hx)
      · rw [hx]
      · cases hx
  · rw [if_neg e]
    constructor
    · intro hx; exact .inr hx
    · rintro (hx | hx)
      · rw [hx] at e; exact absurd rfl e
      · exact hx
theorem alike_min {l m : List (Int × Int)} (hl : HGood l) (hm : HGood m) (h : Alikev l m) (h0 : 0 < l.length) (h0' : 0 < m.length) : vv l 0 = vv m 0 := by
  obtain ⟨a1, a2⟩ := min_spec hl h0
  obtain ⟨b1, b2⟩ := min_spec hm h0'
  have ml : (kk l 0, vv l 0) ∈ l := (mem_get hl.inj _).2 a1
  have mm : (kk m 0, vv m 0) ∈ m := (mem_get hm.inj _).2 b1
  have h1 : vv l 0 ∈ m.map Prod.snd := h.mem_iff.1 (List.mem_map.2 ⟨_, ml, rfl⟩)
  have h2 : vv m 0 ∈ l.map Prod.snd := h.mem_iff.2 (List.mem_map.2 ⟨_, mm, rfl⟩)
  obtain ⟨x, hx, ex⟩ := List.mem_map.1 h1
  obtain ⟨y, hy, ey⟩ := List.mem_map.1 h2
  have c1 := b2 _ _ ((mem_get hm.inj x).1 hx)
  have c2 := a2 _ _ ((mem_get hl.inj y).1 hy)
  omega
theorem alike_drop {l m : List (Int × Int)} (hl : HGood l) (hm : HGood m) (h : Alikev l m) (h0 : 0 < l.length) (h0' : 0 < m.length) : Alikev (drop lt l (kk l 0)) (drop lt m (kk m 0)) := by
  have e := alike_min hl hm h h0 h0'
  have p1 := (drop_perm hl h0).map Prod.snd
  have p2 := (drop_perm hm h0').map Prod.snd
  simp only [List.map_cons] at p1 p2
  have := (p1.symm.trans h).trans p2
  rw [e] at this
  exact this.cons_inv
theorem drop_len {l : List (Int × Int)} (h : HGood l) (hl : 0 < l.length) : (drop lt l (kk l 0)).length = l.length - 1 := by
  have := (drop_perm h hl).length_eq
  simp at this
  omega

/-- Which key is set in the i-th round of a turned order. -/
theorem turn_all (n A k : Nat) (hn : 0 < n) (hk : k < n) : ∃ i, i < n ∧ (i + A) % n = k := by
  refine ⟨(k + (n - A % n)) % n, Nat.mod_lt _ hn, ?_⟩
  have h1 : A % n < n := Nat.mod_lt _ hn
  rw [Nat.add_mod, Nat.mod_mod, ← Nat.add_mod, Nat.add_mod]
  have h2 : (k + (n - A % n)) % n + A % n = (k + (n - A % n)) % n + A % n := rfl
  by_cases h3 : k < A % n
  · have e : (k + (n - A % n)) % n = k + (n - A % n) := Nat.mod_eq_of_lt (by omega)
    rw [e, show k + (n - A % n) + A % n = k + n by omega, Nat.add_mod_right, Nat.mod_eq_of_lt hk]
  · have e : (k + (n - A % n)) % n = k - A % n := by
      rw [show k + (n - A % n) = (k - A % n) + n by omega, Nat.add_mod_right, Nat.mod_eq_of_lt (by omega)]
    rw [e, show k - A % n + A % n = k by omega, Nat.mod_eq_of_lt hk]
end Go.Proofs.Ytbnpipfmeekbdaa
