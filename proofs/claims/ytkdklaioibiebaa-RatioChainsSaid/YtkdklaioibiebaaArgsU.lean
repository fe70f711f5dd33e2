/- A ratio by value, as an argument. -/
import Derived.Test.YtkdklaioibiebaaMore
namespace Go.Kpt
open Go.RowKit Go.ChangeShapes Go.WideShapes Go.ChangeAt Go.Deep
section
variable {H : Type} {enc : TypeId × Value → H} {P : Program} {w : World} {base : Nat} {spare : Nat → Bool} {held : Bool}

def u64Fields (P : Program) (fs : Array Field) : Bool := match fs[0]?, fs[1]? with
  | some f, some g => fs.size == 2 && f.offset == 0 && g.offset == 1 && P.cellsOf f.type == 1 && P.cellsOf g.type == 1 && (match P.underlying f.type, P.underlying g.type with | some (.int .u64), some (.int .u64) => true | _, _ => false)
  | _, _ => false

theorem wf_u64 {n : Int} (h : (Lit.int .u64 n).wf = true) : ∃ m : Nat, n = m ∧ m < 18446744073709551616 := by
  obtain ⟨h0, h1⟩ := bounds_u64 h
  exact ⟨n.toNat, by omega, by omega⟩

/-- Two numbers by value. -/
theorem read_struct_u64 {r : Reach} {b0 : Nat} {t : TypeId} {fs : Array Field} {v : Value} {d : DataW H} {p : List MemPlace} (hs : P.underlying t = some (.struct fs)) (hone : u64Fields P fs = true) (hC : P.cellsOf t = 2)
    (hv : Value.okWide P w r b0 t v) (h : DataW.Trod enc P w base spare held t v d p) :
    ∃ z : Nat × Nat, (z.1 < 18446744073709551616 ∧ z.2 < 18446744073709551616) ∧ v = .agg #[.int .u64 (z.1 : Int), .int .u64 (z.2 : Int)] := by
  obtain ⟨cs, rfl, hsz⟩ := okWide_struct hs hv
  obtain ⟨fuel, hf⟩ := h
  obtain ⟨xs, n, _, _, hlen, hxl, hg⟩ := DataW.trod_struct hs hf
  unfold u64Fields at hone
  split at hone
  · rename_i f g hf0 hg0
    simp only [Bool.and_eq_true, beq_iff_eq] at hone
    obtain ⟨⟨⟨⟨⟨hsize, hfo⟩, hgo⟩, hfc⟩, hgc⟩, hty⟩ := hone
    split at hty
    · rename_i uf ug
      have a := hg 0 f hf0
      have b := hg 1 g hg0
      rw [hfo, hfc] at a
      rw [hgo, hgc] at b
      have hx0 : xs[0]? = some xs[0] := List.getElem?_eq_getElem (by omega)
      have hx1 : xs[1]? = some xs[1] := List.getElem?_eq_getElem (by omega)
      rw [hx0] at a
      rw [hx1] at b
      obtain ⟨z0, hz0, _, hw0⟩ := DataW.trod_int uf a
      obtain ⟨z1, hz1, _, hw1⟩ := DataW.trod_int ug b
      obtain ⟨m0, rfl, hm0⟩ := wf_u64 hw0
      obtain ⟨m1, rfl, hm1⟩ := wf_u64 hw1
      refine ⟨(m0, m1), ⟨hm0, hm1⟩, ?_⟩
      obtain ⟨l⟩ := cs
      simp only [Value.cells] at hz0 hz1 hlen
      rcases l with _ | ⟨c0, _ | ⟨c1, _ | ⟨c2, l⟩⟩⟩
      · simp [hC] at hlen
      · simp [hC] at hlen
      · simp at hz0 hz1
        rw [hz0, hz1]
      · simp [hC] at hlen
    · cases hty
  · cases hone
end
end Go.Kpt
