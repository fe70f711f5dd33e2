/- A map's put as a run: for regions that draw. -/
import Derived.Test.YtjibcecekjmnlaaGenMap
set_option linter.unusedVariables false
namespace Go.Kpt
open Go.RowKit Go.Maps
variable {α : Type} {E : El α} {P : Program} {kt et t : TypeId} {w : World} {mb c : Nat} {m : Int → Option α}
theorem Gm.put_run (h : Gm E P kt w mb c m) (hk : P.underlying kt = some (.int .i64)) (ht : P.underlying t = some (.map kt et)) (hc : c < maxLen) (k : Int) (v : α) (hw : (Lit.int .i64 k).wf = true) :
    ∃ w', (Instr.mapUpdate t (.map (some mb)) (.int .i64 k) (E.val v)).run P w = .ok () w' ∧ Gm E P kt w' mb (if (m k).isSome then c else c + 1) (gput m k v) ∧ Kept (fun x => x = mb) w w' := by
  obtain ⟨D, h1, h2⟩ := h
  obtain ⟨w', hrun, hn, hg'⟩ := h1.update (int_keyed hk) ht hc (keyOf_int_mk hk hw) (E.R_val v)
  have h3 := h2.put (h1.tidy (int_keyed hk)) k v
  have h4 := has_of_ownsMap hk h1 h2.size hn
  rw [h3.size] at h4
  exact ⟨w', hrun, ⟨_, h4, h3⟩, Kept.of_grown1 hg'⟩
theorem Gm.drewN (h : Gm E P kt w mb c m) (n : Nat) : Gm E P kt (w.drewN n) mb c m := h.kept (F := fun _ => False) ((Kept.refl _ w).drewN n) (fun h => h)
theorem Gm.drew (h : Gm E P kt w mb c m) : Gm E P kt w.drew mb c m := h.kept (F := fun _ => False) ((Kept.refl _ w).drew) (fun h => h)
theorem Gm.look_eq (h : Gm E P kt w mb c m) (hk : P.underlying kt = some (.int .i64)) (ht : P.underlying t = some (.map kt et)) (z : α) (hz : ∀ w, (zeroValue et).run P w = .ok (E.val z) w) (k : Int) (hw : (Lit.int .i64 k).wf = true) (v : α) (hv : (m k).getD z = v) (n : Nat) :
    (Instr.lookup t (.map (some mb)) (.int .i64 k) false).run P (w.drewN n) = .ok (E.val v) (w.drewN n) := by
  subst hv; exact (h.drewN n).look hk ht z (hz _) k hw
theorem Gm.look_ok_eq (h : Gm E P kt w mb c m) (hk : P.underlying kt = some (.int .i64)) (ht : P.underlying t = some (.map kt et)) (z : α) (hz : ∀ w, (zeroValue et).run P w = .ok (E.val z) w) (k : Int) (hw : (Lit.int .i64 k).wf = true) (v : α) (b : Bool) (hv : (m k).getD z = v) (hb : (m k).isSome = b) (n : Nat) :
    (Instr.lookup t (.map (some mb)) (.int .i64 k) true).run P (w.drewN n) = .ok (.tuple #[E.val v, .bool b]) (w.drewN n) := by
  subst hv; subst hb; exact (h.drewN n).look_ok hk ht z (hz _) k hw
end Go.Kpt
