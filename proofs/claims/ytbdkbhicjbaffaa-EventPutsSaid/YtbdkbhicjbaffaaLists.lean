/- Events behind events: what those that can be written are as bytes, and back. -/
import Derived.Test.YtbdkbhicjbaffaaConv
namespace Go.Proofs.Ytbdkbhicjbaffaa
open Go.RowKit Go.Kpt WirePure
set_option linter.unusedVariables false

/-- Those events that can be written. -/
def rl (l : List Evt) : List Evt := l.filter (fun f => decide (right f))
def encR (l : List Evt) : List Nat := (rl l).flatMap encE
def enc1 (f : Evt) : List Nat := if right f then encE f else []

theorem rl_right (l : List Evt) : ∀ f ∈ rl l, right f := fun f hf => by simpa using (List.mem_filter.1 hf).2
theorem rl_len (l : List Evt) : (rl l).length ≤ l.length := List.length_filter_le _ _
theorem rl_snoc (l : List Evt) (f : Evt) : rl (l ++ [f]) = rl l ++ (if right f then [f] else []) := by
  unfold rl
  rw [List.filter_append]
  by_cases h : right f <;> simp [h]
theorem encR_snoc (l : List Evt) (f : Evt) : encR (l ++ [f]) = encR l ++ enc1 f := by
  unfold encR enc1
  rw [rl_snoc, List.flatMap_append]
  by_cases h : right f <;> simp [h]
theorem encR_len (l : List Evt) : (encR l).length ≤ 70 * l.length := by
  have h1 := encAll_len (rl_right l)
  have h2 := rl_len l
  unfold encR; omega
theorem encR_byte (l : List Evt) : ∀ c ∈ encR l, c < 256 := encAll_byte (rl_right l)
theorem all_encR (l : List Evt) (h : l.length ≤ 16384) : allB (encR l) = (rl l, (encR l).length, 0) := by
  have := rl_len l
  exact allE_enc (rl l) (encR l).length 0 (rl_right l) (by omega) (Nat.le_refl _)
theorem all_encR2 (l k : List Evt) (h : l.length + k.length ≤ 16384) : allB (encR l ++ encR k) = (rl l ++ rl k, (encR l).length + (encR k).length, 0) := by
  have h1 := rl_len l
  have h2 := rl_len k
  have := allE_enc (rl l ++ rl k) (encR l ++ encR k).length 0 (fun f hf => by
    rcases List.mem_append.1 hf with hf | hf
    · exact rl_right l f hf
    · exact rl_right k f hf) (by rw [List.length_append]; omega) (by rw [List.flatMap_append]; exact Nat.le_refl _)
  rw [List.flatMap_append] at this
  unfold allB
  rw [show encR l = (rl l).flatMap encE from rfl, show encR k = (rl k).flatMap encE from rfl] at *
  rw [this, List.length_append]

theorem putE_both (base : Nat) (a : Option Addr) (cap : Nat) (zs : List Nat) (f : Evt) (w : World) (hown : OwnI w base 5 .u8 (.slice a zs.length cap) (ib zs)) (hb : base ≤ w.heap.size) (hz0 : zs.length ≤ 9000) :
    Calls Try.prog 10 #[.slice a zs.length cap, .agg (evc f)] w fun e w' => ∃ v, e = .returned v ∧ OwnI w' base 5 .u8 v (ib (zs ++ enc1 f)) ∧ Below w.heap.size w w' := by
  by_cases h : right f
  · obtain ⟨a2, cap2, he, _, _, hsl⟩ := hown.sl
    simp only [Value.slice.injEq] at he
    obtain ⟨rfl, _, rfl⟩ := he
    refine (putE_any a cap zs f _ w hsl hz0 h (fun x hx => hx.2)).mono ?_
    rintro e w' ⟨v, rfl, h1, h2⟩
    refine ⟨v, rfl, ?_, h2⟩
    unfold enc1
    rw [if_pos h]
    exact h1.mono hb
  · refine (putE_no a cap zs.length f w h).mono ?_
    rintro e w' ⟨rfl, h2⟩
    refine ⟨_, rfl, ?_, h2⟩
    unfold enc1
    rw [if_neg h, List.append_nil]
    exact hown.kept (Kept.of_below (F := fun _ => False) h2) (fun _ _ h => h)

theorem OwnI.here {w : World} {base : Nat} {e : TypeId} {k : IntKind} {a : Option Addr} {n cap : Nat} {xs : List Int} (h : OwnI w base e k (.slice a n cap) xs) : n = xs.length ∧ xs.length ≤ cap ∧ Sl k w (fun x => base ≤ x ∧ x < w.heap.size) a xs := by
  obtain ⟨a2, c2, he, h1, _, h2⟩ := OwnI.sl h
  simp only [Value.slice.injEq] at he
  obtain ⟨rfl, rfl, rfl⟩ := he
  exact ⟨rfl, h1, h2⟩

/-- A slice's event, cell by cell. -/
theorem SE.ten {w : World} {p : Nat → Prop} {a : Option Addr} {l : List Evt} (h : SE w p a l) (i : Nat) (hi : i < l.length) : ∃ b off, a = some ⟨b, off, none⟩ ∧ p b ∧
    w.cell? ⟨b, off + i * 10, none⟩ = some (.int .i64 (l.getD i noev 0)) ∧ w.cell? ⟨b, off + i * 10 + 1, none⟩ = some (.int .i64 (l.getD i noev 1)) ∧ w.cell? ⟨b, off + i * 10 + 2, none⟩ = some (.int .i64 (l.getD i noev 2)) ∧ w.cell? ⟨b, off + i * 10 + 3, none⟩ = some (.int .i64 (l.getD i noev 3)) ∧ w.cell? ⟨b, off + i * 10 + 4, none⟩ = some (.int .i64 (l.getD i noev 4)) ∧ w.cell? ⟨b, off + i * 10 + 5, none⟩ = some (.int .i64 (l.getD i noev 5)) ∧ w.cell? ⟨b, off + i * 10 + 6, none⟩ = some (.int .i64 (l.getD i noev 6)) ∧ w.cell? ⟨b, off + i * 10 + 7, none⟩ = some (.int .i64 (l.getD i noev 7)) ∧ w.cell? ⟨b, off + i * 10 + 8, none⟩ = some (.int .i64 (l.getD i noev 8)) ∧ w.cell? ⟨b, off + i * 10 + 9, none⟩ = some (.int .i64 (l.getD i noev 9)) := by
  obtain ⟨b, off, ha, hb, hc⟩ := h i hi
  refine ⟨b, off, ha, hb, ?_⟩
  have k := fun j => hc j
  simp only [← Nat.add_assoc] at k
  exact ⟨k 0, k 1, k 2, k 3, k 4, k 5, k 6, k 7, k 8, k 9⟩
end Go.Proofs.Ytbdkbhicjbaffaa
