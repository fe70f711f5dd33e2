/- Arguments of bytes and of events; bytes as a string. -/
import Derived.Test.YtbdkbhicjbaffaaLawB
import Derived.Test.YtbdkbhicjbaffaaAll
namespace Go.Proofs.Ytbdkbhicjbaffaa
open Go.RowKit Go.Kpt WirePure
set_option linter.unusedVariables false

theorem nats_of {z : List Int} (h : ∀ n ∈ z, 0 ≤ n) : ∃ zs : List Nat, z = ib zs := by
  refine ⟨z.map Int.toNat, ?_⟩
  simp only [ib, List.map_map]
  conv => lhs; rw [← List.map_id z]
  apply List.map_congr_left
  intro n hn
  have := h n hn
  simp only [id, Function.comp]
  exact (Int.toNat_of_nonneg this).symm

/-- An argument's bytes. -/
theorem isBytes {w : World} {a : Option Addr} {z : List Int} (h : IsInts .u8 w a z) : ∃ zs : List Nat, z = ib zs ∧ (∀ c ∈ zs, c < 256) ∧ Sl .u8 w (fun x => x < w.heap.size) a (ib zs) := by
  obtain ⟨zs, rfl⟩ := nats_of (z := z) (fun n hn => (bounds_u8 (h.2.1 n hn)).1)
  refine ⟨zs, rfl, fun c hc => ?_, fun i hi => ?_⟩
  · have := (bounds_u8 (h.2.1 (Int.ofNat c) (List.mem_map.2 ⟨c, hc, rfl⟩))).2
    simp at this; omega
  · obtain ⟨b, off, ha, hc⟩ := h.2.2 i hi
    exact ⟨b, off, ha, block_lt_of_cell hc, hc⟩

theorem ib_take (zs : List Nat) (n : Nat) : ib (zs.take n) = (ib zs).take n := by simp [ib, List.map_take]
theorem Sl.take {k : IntKind} {w : World} {p : Nat → Prop} {a : Option Addr} {zs : List Int} (h : Sl k w p a zs) (n : Nat) : Sl k w p a (zs.take n) := by
  intro i hi
  have hi' : i < n ∧ i < zs.length := by simp at hi; omega
  obtain ⟨b, off, ha, hb, hc⟩ := h i hi'.2
  refine ⟨b, off, ha, hb, ?_⟩
  rw [hc]
  simp [List.getD_eq_getElem?_getD, hi'.1]

theorem encP_byte (f : Evt) (l : List (Fin 10)) (h : ∀ j ∈ l, 0 ≤ f j ∧ f j ≤ 2147483647) : ∀ c ∈ encP f l, c < 256 := by
  intro c hc
  obtain ⟨j, hj, hc⟩ := List.mem_flatMap.1 hc
  have := h j hj
  exact enc_bytes 10 (f j).toNat (by omega) c hc
theorem encE_byte {f : Evt} (h : right f) : ∀ c ∈ encE f, c < 256 := by
  intro c hc
  have hc' : c ∈ enc (f 0).toNat ++ encP f (parts (f 0)) := hc
  rcases List.mem_append.1 hc' with hc | hc
  · exact enc_bytes 10 (f 0).toNat (by have := h.1; omega) c hc
  · exact encP_byte f _ h.2.1 c hc
theorem encAll_byte {l : List Evt} (h : ∀ f ∈ l, right f) : ∀ c ∈ l.flatMap encE, c < 256 := by
  intro c hc
  obtain ⟨f, hf, hc⟩ := List.mem_flatMap.1 hc
  exact encE_byte (h f hf) c hc
theorem encAll_len {l : List Evt} (h : ∀ f ∈ l, right f) : (l.flatMap encE).length ≤ 70 * l.length := by
  induction l with
  | nil => simp
  | cons f l ih =>
    have h1 := encE_len (h f (List.mem_cons_self ..))
    have h2 := ih (fun g hg => h g (List.mem_cons_of_mem _ hg))
    rw [List.flatMap_cons, List.length_append, List.length_cons]; omega

/-- An argument's events. -/
def evOf (z : Nat → Int) : Evt := fun j => z j.val
def evs (z : List (Nat → Int)) : List Evt := z.map evOf
theorem isEvents {w : World} {a : Option Addr} {z : List (Nat → Int)} (h : IsStructs 10 w a z) : SE w (fun x => x < w.heap.size) a (evs z) := by
  intro i hi
  have hi' : i < z.length := by simpa [evs] using hi
  obtain ⟨b, off, ha, hc⟩ := h.2.2 i hi'
  refine ⟨b, off, ha, block_lt_of_cell (hc 0 (by omega)), fun j => ?_⟩
  rw [← Nat.add_assoc, hc j.val j.isLt]
  simp [evs, evOf, List.getD_eq_getElem?_getD, hi']

def bstr (zs : List Nat) : ByteArray := strOfNums (ib zs)

theorem conv_any {w : World} {p : Nat → Prop} {a : Option Addr} {zs : List Nat} (hsl : Sl .u8 w p a (ib zs)) (cap : Nat) :
    (convert 25 9 (.slice a zs.length cap)).run Try.prog w = .ok (.string (bstr zs)) w := by
  have hs : Try.prog.underlying 25 = some (.slice 5) := Try.underlying25
  have he : Try.prog.underlying 5 = some (.int .u8) := Try.underlying5
  have hd : Try.prog.underlying 9 = some .string := Try.underlying9
  by_cases h0 : zs = []
  · subst h0
    cases a with
    | none => exact run_convert_bytes_nil w 25 5 hs he _ cap 9 hd
    | some ad =>
      rw [run_convert_bytes_string w 25 9 5 _ _ cap hs he hd]
      exact run_bytesToString w ad 0 cap [] (by simp [loadCells, loadCellsFrom])
  · obtain ⟨b, off, rfl, _, _⟩ := hsl 0 (by rw [ib_length]; exact List.length_pos_iff.2 h0)
    refine run_convert_bytes_arg w 25 5 hs he b off zs.length cap (ib zs) (ib_length zs) (fun i hi => ?_) 9 hd
    obtain ⟨b', off', e', _, hc⟩ := hsl i (by rw [ib_length]; exact hi)
    cases e'
    exact hc
end Go.Proofs.Ytbdkbhicjbaffaa
