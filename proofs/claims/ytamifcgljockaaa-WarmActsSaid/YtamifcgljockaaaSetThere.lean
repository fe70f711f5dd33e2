/- What a heap's functions do: Set, at a key that is there. -/
import Derived.Test.YtamifcgljockaaaOps2
import Derived.Test.YtamifcgljockaaaDown
namespace Go.Proofs.Ytamifcgljockaaa
open Go.RowKit Go.Kpt HeapPure
set_option linter.unusedVariables false

/-- The slice lies where it lay, or in a block that is new. -/
def Moved (w : World) (v v' : Value) : Prop := ∀ g, v'.ownBlock = some g → v.ownBlock = some g ∨ w.heap.size ≤ g
theorem Moved.refl (w : World) (v : Value) : Moved w v v := fun g h => .inl h

theorem fix_kept {w u u' : World} {hb mb : Nat} {v v' : Value} (h1 : Kept (fun x => x = hb ∨ own mb v x) w u) (h2 : Kept (own mb v') u u') (hm : Moved w v v') : Kept (fun x => x = hb ∨ own mb v x) w u' :=
  h1.trans h2 fun x hx h => by
    rcases h with h | h
    · exact .inr (.inl h)
    · rcases hm x h.symm with h3 | h3
      · exact .inr (.inr h3.symm)
      · omega

set_option maxRecDepth 1000000 in
set_option maxHeartbeats 8000000 in
theorem set_there (HL : LessC) (base hb : Nat) (v : Value) (mb : Nat) (l : List (Int × Mk)) (k : Int) (x : Mk) (hk : (Lit.int .i64 k).wf = true) (i : Nat) (e : idx l k = some i) (w : World) (h : Hp w base hb fv20 v mb l) :
    Calls Try.prog 22 #[.pointer (some ⟨hb, 0, none⟩), .int .i64 k, mv x] w fun e w' => e = .returned (.tuple #[]) ∧ Hp w' base hb fv20 v mb (setAt lt l k x) ∧ Kept (fun y => y = hb ∨ own mb v y) w w' := by
  obtain ⟨hi, hik⟩ := idx_some e
  have hset : setAt lt l k x = fix lt (l.set i (k, x)) i := by unfold setAt; rw [e]
  rw [hset]
  have hM : Mb (w.alloc (.cells #[.int .u64 x.n, .int .u64 x.d, .int .i64 x.id] 50)) w.heap.size x.n x.d x.id := heap_alloc_new _ _
  have k1 : Kept (fun _ => False) w (w.alloc (.cells #[.int .u64 x.n, .int .u64 x.d, .int .i64 x.id] 50)) := (Kept.refl _ w).alloc _
  obtain ⟨w1, hw1⟩ : ∃ w1, w.alloc (.cells #[.int .u64 x.n, .int .u64 x.d, .int .i64 x.id] 50) = w1 := ⟨_, rfl⟩
  rw [hw1] at hM k1
  have h1 := h.kept k1 (fun h => h) (fun h => h) (fun _ _ h => h)
  obtain ⟨b0, b1, b2⟩ := hM.cells
  have q1 : w1.cell? ⟨hb, 1, none⟩ = some v := cell_of h1.blk
  have q2 : w1.cell? ⟨hb, 2, none⟩ = some (.map (some mb)) := cell_of h1.blk
  have hm : mi l k = some (i : Int) := by unfold mi; rw [e]; rfl
  have hmp := h1.mp
  obtain ⟨ap1, ap2⟩ := h1.apart
  rcases h1.own.shape with ⟨-, rfl⟩ | ⟨g, cap, rfl, hg1, hg2, hlc, hcm, hfz, hcl⟩
  · simp at hi
  obtain ⟨ap2, ap3⟩ := ap2 g rfl
  obtain ⟨-, c1, c2, c3⟩ := hcl i hi
  have f1 := hfz (i * 4 + 1)
  have f2 := hfz (i * 4 + 2)
  have f3 := hfz (i * 4 + 3)
  have hi' : (i : Int) < (l.length : Int) := by omega
  have hkey : (l.getD i default).1 = k := by rw [getElem_of hi] at hik; rw [Option.some.inj hik]
  have hown2 := h1.own.setV i hi x
  rw [hkey] at hown2
  have hk2 : Kept (fun y => y = g) w1 (((w1.setCell ⟨g, i * 4 + 1, none⟩ (.int .u64 x.n)).setCell ⟨g, i * 4 + 2, none⟩ (.int .u64 x.d)).setCell ⟨g, i * 4 + 3, none⟩ (.int .i64 x.id)) := ((Kept.set1 w1 g _ _).trans (Kept.set1 _ g _ _) (fun _ _ h => h)).trans (Kept.set1 _ g _ _) (fun _ _ h => h)
  have hmp2 := hmp.kept hk2 (Ne.symm ap3)
  rw [← mi_set h.inj (v := x) e] at hmp2
  have hHp : Hp (((w1.setCell ⟨g, i * 4 + 1, none⟩ (.int .u64 x.n)).setCell ⟨g, i * 4 + 2, none⟩ (.int .u64 x.d)).setCell ⟨g, i * 4 + 3, none⟩ (.int .i64 x.id)).drew base hb fv20 (.slice (some ⟨g, 0, none⟩) l.length cap) mb (l.set i (k, x)) :=
    ((⟨(hk2.block hb (lt_of h1.blk) (Ne.symm ap2)).trans h1.blk, hown2, by rw [List.length_set]; exact hmp2, set_inj h.inj e, fun y hy => by
      rcases List.mem_or_eq_of_mem_set hy with hy | hy
      · exact h.wf y hy
      · rw [hy]; exact hk, by rw [List.length_set]; exact h.len⟩ : Hp _ base hb fv20 (.slice (some ⟨g, 0, none⟩) l.length cap) mb (l.set i (k, x)))).kept (F := fun _ => False) ((Kept.refl _ _).drew) (fun h => h) (fun h => h) (fun _ _ h => h)
  have hk3 := (k1.mono (G := fun y => y = g) (fun _ _ h => h.elim)).trans hk2.drew (fun _ _ h => h)
  have hfx := fix_any HL base hb _ mb (l.set i (k, x)) i (by rw [List.length_set]; exact hi) _ hHp
  have hlen : l.length ≤ 100000 := h.len
  clear hown2 hmp2 hHp hcl hfz hkey hset hk2 h1 h k1
  go_enter Try.func22, Try.ntmps22
  go_wp2_with (at_lookup; refine wpList_mp_look _ rfl _ _ rfl Try.underlying3 Try.underlying60 Try.underlying3 (zeroI _) mb l.length (mi l) rfl hmp k rfl hk ?_; rw [hm])
  go_region
  all_goals (go_wp2_with fail)
  all_goals refine hfx.mono ?_
  all_goals rintro e w2 ⟨rfl, h2, k2⟩
  all_goals (go_wp2_with fail)
  all_goals go_returns
  all_goals exact ⟨rfl, h2, fix_kept (hk3.mono (fun y _ hy => .inr (.inr (by rw [hy]; rfl)))) k2 (Moved.refl _ _)⟩
end Go.Proofs.Ytamifcgljockaaa
