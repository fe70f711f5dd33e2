/- How a law's arguments are read: slices of numbers, of bools, of structs of ints; structs by value. -/
import Derived.Test.YtjibcecekjmnlaaKept
import Derived.ProofKit
import Derived.OpenShut
import Derived.Deep.Slices
import Derived.ChangeSame
namespace Go.Kpt
open Go.RowKit Go.ChangeShapes Go.WideShapes Go.ChangeAt Go.Deep

/-- A slice that reads as these numbers. -/
def IsInts (k : IntKind) (w : World) (a : Option Addr) (zs : List Int) : Prop :=
  zs.length ≤ maxLen ∧ (∀ n ∈ zs, (Lit.int k n).wf = true) ∧
  ∀ i, i < zs.length → ∃ b off, a = some ⟨b, off, none⟩ ∧ w.cell? ⟨b, off + i, none⟩ = some (.int k (zs.getD i 0))

/-- A slice that reads as these bools. -/
def IsBools (w : World) (a : Option Addr) (zs : List Bool) : Prop :=
  zs.length ≤ maxLen ∧ ∀ i, i < zs.length → ∃ b off, a = some ⟨b, off, none⟩ ∧ w.cell? ⟨b, off + i, none⟩ = some (.bool (zs.getD i false))

/-- A slice of structs of n ints that reads so: of each element its j-th field. -/
def IsStructs (n : Nat) (w : World) (a : Option Addr) (zs : List (Nat → Int)) : Prop :=
  zs.length ≤ maxLen ∧ (∀ f ∈ zs, ∀ j, (Lit.int .i64 (f j)).wf = true) ∧
  ∀ i, i < zs.length → ∃ b off, a = some ⟨b, off, none⟩ ∧ ∀ j, j < n → w.cell? ⟨b, off + i * n + j, none⟩ = some (.int .i64 (zs.getD i (fun _ => 0) j))

theorem wf_get {k : IntKind} {zs : List Int} (h : ∀ n ∈ zs, (Lit.int k n).wf = true) (h0 : (Lit.int k 0).wf = true) (i : Nat) : (Lit.int k (zs.getD i 0)).wf = true := by
  rw [List.getD_eq_getElem?_getD]
  cases e : zs[i]? with
  | none => exact h0
  | some x => exact h x (List.mem_of_getElem? e)

/-- An address of a cell bears no spot. -/
theorem addr_of_cell {w : World} {a : Addr} {v : Value} (h : w.cell? a = some v) : a = ⟨a.block, a.off, none⟩ := by
  have := World.cell?_spot h
  cases a; simp_all

theorem add_form (b off i : Nat) : (⟨b, off, none⟩ : Addr).add i = ⟨b, off + i, none⟩ := by
  unfold Addr.add; split
  · rename_i h; subst h; rfl
  · rfl

section
variable {H : Type} {enc : TypeId × Value → H} {P : Program} {w : World} {base : Nat} {spare : Nat → Bool} {held : Bool}

theorem read_ints {t e : TypeId} {k : IntKind} {a : Option Addr} {len cap : Nat} {d : DataW H} {p : List MemPlace} (ht : P.underlying t = some (.slice e)) (he : P.underlying e = some (.int k)) (hc : P.cellsOf e = 1)
    (h : DataW.Trod enc P w base spare held t (.slice a len cap) d p) : ∃ zs, len = zs.length ∧ IsInts k w a zs ∧ zs.length ≤ cap := by
  obtain ⟨fuel, hf⟩ := h
  rcases open_ints ht he hc hf with ⟨hcs, _⟩ | ⟨x, l, c, zs, hcs, _, hl, hm, hz, _, hcell, hwz⟩
  · simp [Value.cells] at hcs
    obtain ⟨rfl, rfl, rfl⟩ := hcs
    exact ⟨[], rfl, ⟨Nat.zero_le _, by simp, by simp⟩, Nat.zero_le _⟩
  · simp [Value.cells] at hcs
    obtain ⟨rfl, rfl, rfl⟩ := hcs
    have hle : len ≤ zs.length := by rw [hz]; split <;> omega
    refine ⟨zs.take len, by simp; omega, ⟨by simp; omega, fun n hn => hwz n (List.mem_of_mem_take hn), fun i hi => ?_⟩, by simp; omega⟩
    have hi' : i < len := by simp at hi; omega
    have h0 := hcell 0 (by omega)
    have hx : x = ⟨x.block, x.off, none⟩ := addr_of_cell (by simpa [Addr.add] using h0)
    refine ⟨x.block, x.off, by rw [← hx], ?_⟩
    have := hcell i (by omega)
    rw [hx, add_form] at this
    rw [this]
    simp [List.getD_eq_getElem?_getD, hi']

theorem read_bools {t e : TypeId} {a : Option Addr} {len cap : Nat} {d : DataW H} {p : List MemPlace} (ht : P.underlying t = some (.slice e)) (he : P.underlying e = some .bool) (hc : P.cellsOf e = 1)
    (h : DataW.Trod enc P w base spare held t (.slice a len cap) d p) : ∃ zs, len = zs.length ∧ IsBools w a zs ∧ zs.length ≤ cap := by
  obtain ⟨fuel, hf⟩ := h
  rcases open_slice1 ht hc hf with ⟨hcs, _⟩ | ⟨x, l, c, m, n, V, D, Pl, hcs, _, hl, hm, hmm, _, hx⟩
  · simp [Value.cells] at hcs
    obtain ⟨rfl, rfl, rfl⟩ := hcs
    exact ⟨[], rfl, ⟨Nat.zero_le _, by simp⟩, Nat.zero_le _⟩
  · simp [Value.cells] at hcs
    obtain ⟨rfl, rfl, rfl⟩ := hcs
    have hle : len ≤ m := by rw [hmm]; split <;> omega
    refine ⟨(List.range len).map fun i => (match V i with | .bool q => q | _ => false), by simp, ⟨by simp; omega, fun i hi => ?_⟩, by simp; omega⟩
    have hi' : i < len := by simpa using hi
    have h0 := (hx 0 (by omega)).1
    have hxx : x = ⟨x.block, x.off, none⟩ := addr_of_cell (by simpa [Addr.add] using h0)
    refine ⟨x.block, x.off, by rw [← hxx], ?_⟩
    obtain ⟨hc1, hc2⟩ := hx i (by omega)
    rw [hxx, add_form] at hc1
    obtain ⟨q, hq⟩ : ∃ q, V i = .bool q := by
      cases n with
      | zero => simp [DataW.trod] at hc2
      | succ n => unfold DataW.trod at hc2; rw [he] at hc2; cases hV : V i <;> simp [hV] at hc2 <;> exact ⟨_, rfl⟩
    rw [hc1]
    simp [List.getD_eq_getElem?_getD, hi', hq]

end
/-- A cell of an argument, in a world in which all that was there is as it was. -/
theorem arg_cell {w wr : World} {b off : Nat} {v : Value} (hB : Below w.heap.size w wr) (h : w.cell? ⟨b, off, none⟩ = some v) : wr.cell? ⟨b, off, none⟩ = some v :=
  (hB.cell (p := ⟨b, off, none⟩) (block_lt_of_cell h)).trans h
section
variable {H : Type} {enc : TypeId × Value → H} {P : Program} {w : World} {base : Nat} {spare : Nat → Bool} {held : Bool}

/-- A field's place and kind. -/
def intFields (P : Program) (fs : Array Field) : Bool := (List.range fs.size).all fun j => match fs[j]? with
  | some f => f.offset == j && P.cellsOf f.type == 1 && (match P.underlying f.type with | some (.int .i64) => true | _ => false)
  | none => false

theorem intFields_at {fs : Array Field} (h : intFields P fs = true) {j : Nat} {f : Field} (hj : fs[j]? = some f) : f.offset = j ∧ P.cellsOf f.type = 1 ∧ P.underlying f.type = some (.int .i64) := by
  have hl := (Array.getElem?_eq_some_iff.1 hj).1
  have := List.all_eq_true.1 h j (List.mem_range.2 hl)
  rw [hj] at this
  simp only [Bool.and_eq_true, beq_iff_eq] at this
  obtain ⟨⟨a, b⟩, c⟩ := this
  refine ⟨a, b, ?_⟩
  split at c
  · assumption
  · cases c

theorem struct_ints {e : TypeId} {fs : Array Field} {fuel : Nat} {cs : List Value} {x : DataW H × List MemPlace} (he : P.underlying e = some (.struct fs)) (hone : intFields P fs = true) (hC : P.cellsOf e = fs.size)
    (h : DataW.trod enc P w base spare held fuel e cs = some x) : cs.length = fs.size ∧ ∃ f : Nat → Int, (∀ j, (Lit.int .i64 (f j)).wf = true) ∧ ∀ j, j < fs.size → cs[j]? = some (.int .i64 (f j)) := by
  obtain ⟨xs, n, _, _, hlen, hxl, hg⟩ := DataW.trod_struct he h
  rw [hC] at hlen
  have each : ∀ j, j < fs.size → ∃ z, cs[j]? = some (.int .i64 z) ∧ (Lit.int .i64 z).wf = true := by
    intro j hj
    have hf : fs[j]? = some fs[j] := Array.getElem?_eq_getElem hj
    obtain ⟨ho, h1, h2⟩ := intFields_at hone hf
    have ht := hg j _ hf
    rw [ho, h1] at ht
    have hx : xs[j]? = some xs[j] := List.getElem?_eq_getElem (by omega)
    rw [hx] at ht
    obtain ⟨z, hz, _, hw⟩ := DataW.trod_int h2 ht
    refine ⟨z, ?_, hw⟩
    have : ((cs.drop j).take 1)[0]? = some (.int .i64 z) := by rw [hz]; rfl
    simpa [List.getElem?_take, List.getElem?_drop] using this
  obtain ⟨F, hF⟩ := choose_lt (α := Int) each
  refine ⟨hlen, fun j => if j < fs.size then F j else 0, fun j => ?_, fun j hj => ?_⟩
  · dsimp only
    split
    · rename_i hj; exact (hF j hj).2
    · decide
  · show cs[j]? = some (.int .i64 (if j < fs.size then F j else 0))
    rw [if_pos hj]; exact (hF j hj).1

theorem read_structs {t e : TypeId} {fs : Array Field} {a : Option Addr} {len cap : Nat} {d : DataW H} {p : List MemPlace} (ht : P.underlying t = some (.slice e)) (he : P.underlying e = some (.struct fs)) (hone : intFields P fs = true) (hC : P.cellsOf e = fs.size) (hpos : 0 < fs.size)
    (h : DataW.Trod enc P w base spare held t (.slice a len cap) d p) : ∃ zs, len = zs.length ∧ IsStructs fs.size w a zs ∧ zs.length ≤ cap := by
  obtain ⟨fuel, hf⟩ := h
  rcases open_slice ht hf with ⟨hcs, _⟩ | ⟨x, l, c, m, n, D, Pl, hcs, _, hl, hm, hmm, _, hx⟩
  · simp [Value.cells] at hcs
    obtain ⟨rfl, rfl, rfl⟩ := hcs
    exact ⟨[], rfl, ⟨Nat.zero_le _, by simp, by simp⟩, Nat.zero_le _⟩
  · simp [Value.cells] at hcs
    obtain ⟨rfl, rfl, rfl⟩ := hcs
    have hle : len ≤ m := by rw [hmm]; split <;> omega
    have each : ∀ i, i < len → ∃ f : Nat → Int, (∀ j, (Lit.int .i64 (f j)).wf = true) ∧ ∀ j, j < fs.size → w.cell? (x.add (i * fs.size + j)) = some (.int .i64 (f j)) := by
      intro i hi
      obtain ⟨cs', hc, ht'⟩ := hx i (by omega)
      rw [hC] at hc
      obtain ⟨_, f, hw, hf'⟩ := struct_ints he hone hC ht'
      obtain ⟨_, hcl, hat⟩ := World.cells?_some hc
      refine ⟨f, hw, fun j hj => ?_⟩
      rw [← Go.Deep.add_add, hat j hj, hf' j hj]
    obtain ⟨F, hF⟩ := choose_lt (α := Nat → Int) each
    refine ⟨(List.range len).map F, by simp, ⟨by simp; omega, fun f hf => ?_, fun i hi => ?_⟩, by simp; omega⟩
    · obtain ⟨i, hi, rfl⟩ := List.mem_map.1 hf
      exact (hF i (List.mem_range.1 hi)).1
    · have hi' : i < len := by simpa using hi
      have h0 := (hF 0 (by omega)).2 0 hpos
      have hxx : x = ⟨x.block, x.off, none⟩ := addr_of_cell (by simpa [Addr.add] using h0)
      refine ⟨x.block, x.off, by rw [← hxx], fun j hj => ?_⟩
      have := (hF i hi').2 j hj
      rw [hxx, add_form, ← Nat.add_assoc] at this
      rw [this]
      simp [List.getD_eq_getElem?_getD, hi']

/-- A struct of ints by value. -/
theorem read_struct {r : Reach} {b0 : Nat} {t : TypeId} {fs : Array Field} {v : Value} {d : DataW H} {p : List MemPlace} (hs : P.underlying t = some (.struct fs)) (hone : intFields P fs = true) (hC : P.cellsOf t = fs.size)
    (hv : Value.okWide P w r b0 t v) (h : DataW.Trod enc P w base spare held t v d p) :
    ∃ f : Nat → Int, (∀ j, (Lit.int .i64 (f j)).wf = true) ∧ v = .agg ((List.range fs.size).map fun j => Value.int .i64 (f j)).toArray := by
  obtain ⟨cs, rfl, hsz⟩ := okWide_struct hs hv
  obtain ⟨fuel, hf⟩ := h
  obtain ⟨hl, f, hw, hc⟩ := struct_ints hs hone hC hf
  refine ⟨f, hw, ?_⟩
  congr 1
  apply Array.ext'
  simp only
  apply List.ext_getElem?
  intro j
  by_cases hj : j < fs.size
  · have := hc j hj
    simp only [Value.cells] at this
    rw [this]; simp [hj]
  · simp only [Value.cells] at hl
    rw [List.getElem?_eq_none (by omega), List.getElem?_eq_none (by simp; omega)]

end
end Go.Kpt
