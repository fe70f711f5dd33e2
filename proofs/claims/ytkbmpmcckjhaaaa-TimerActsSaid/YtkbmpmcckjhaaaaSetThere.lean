/- What a heap's functions do: Set, at a key that is there. -/
import Derived.Test.YtkbmpmcckjhaaaaGetT
import Derived.Test.YtkbmpmcckjhaaaaDown
namespace Go.Proofs.Ytkbmpmcckjhaaaa
open Go.RowKit Go.Kpt HeapPure
set_option linter.unusedVariables false

/-- The slice lies where it lay, or in a block that is new. -/
def Moved (w : World) (v v' : Value) : Prop := ∀ g, v'.ownBlock = some g → v.ownBlock = some g ∨ w.heap.size ≤ g
theorem Moved.refl (w : World) (v : Value) : Moved w v v := fun g h => .inl h

theorem fix_kept {w u u' : World} {hb mb : Nat} {v v' : Value} (h1 : Kept (fun x => x = hb ∨ own mb v x) w u) (h2 : Kept (own mb v') u u') (hm : Moved w v v') : Kept (fun x => x = hb ∨ own mb v x) w u' :=
  h1.trans h2 fun x hx h => by
    rcases h with h | h
    · exact .inr (.inl h)
    · rcases hm x h.symm with h3 | h3
      · exact .inr (.inr h3.symm)
      · omega

set_option maxRecDepth 1000000 in
set_option maxHeartbeats 8000000 in
theorem set_there (HL : LessC) (base hb : Nat) (v : Value) (mb : Nat) (l : List (Ke × Tm)) (k : Ke) (x : Tm) (hk : kok k) (i : Nat) (e : idx l k = some i) (w : World) (h : Hp w base hb fv17 v mb l) :
    Calls Try.prog 18 #[.pointer (some ⟨hb, 0, none⟩), kv k, mv x] w fun e w' => e = .returned (.tuple #[]) ∧ Hp w' base hb fv17 v mb (setAt lt l k x) ∧ Kept (fun y => y = hb ∨ own mb v y) w w' := by
  obtain ⟨hi, hik⟩ := idx_some e
  have hset : setAt lt l k x = fix lt (l.set i (k, x)) i := by unfold setAt; rw [e]
  rw [hset]
  have hA0 : Kb (w.alloc (.cells #[.int .i64 k.1, .int .i64 k.2] 29)) w.heap.size k := heap_alloc_new _ _
  have k0 : Kept (fun _ => False) w (w.alloc (.cells #[.int .i64 k.1, .int .i64 k.2] 29)) := (Kept.refl _ w).alloc _
  obtain ⟨w0, hw0⟩ : ∃ w1, w.alloc (.cells #[.int .i64 k.1, .int .i64 k.2] 29) = w1 := ⟨_, rfl⟩
  rw [hw0] at hA0 k0
  have hM : Mb (w0.alloc (.cells #[.int .i64 x.at_, .int .i64 x.kd, .int .i64 x.id] 51)) w0.heap.size x.at_ x.kd x.id := heap_alloc_new _ _
  have k0' : Kept (fun _ => False) w0 (w0.alloc (.cells #[.int .i64 x.at_, .int .i64 x.kd, .int .i64 x.id] 51)) := (Kept.refl _ w0).alloc _
  obtain ⟨w1', hw1⟩ : ∃ w1, w0.alloc (.cells #[.int .i64 x.at_, .int .i64 x.kd, .int .i64 x.id] 51) = w1 := ⟨_, rfl⟩
  rw [hw1] at hM k0'
  have k1' := k0.trans k0' (fun _ _ h => h)
  have hA1 := hA0.kept k0' (fun h => h)
  have h1' := h.kept k1' (fun h => h) (fun h => h) (fun _ _ h => h)
  obtain ⟨a0, a1⟩ := hA1.cells
  have hm : mi l k = some (i : Int) := by unfold mi; rw [e]; rfl
  have hlk := fun n => ki_run (h1'.mp.kept (F := fun _ => False) ((Kept.refl _ w1').drewN n) (fun h => h)) k hk
  rw [hm] at hlk
  have q2 : w1'.cell? ⟨hb, 2, none⟩ = some (.map (some mb)) := cell_of h1'.blk
  have HH := Lib.hid h1'
  have HM := Lib.hid hM
  have HK := Lib.hid k1'
  clear h1' hM k1' hA1 hA0 k0 k0'
  go_enter Try.func18, Try.ntmps18
  go_wp2_with fail
  go_quiet (fail)
  have kD : Kept (fun _ => False) w1' (w1'.drewN nq) := (Kept.refl _ w1').drewN nq
  have h1 := HH.out.kept kD (fun h => h) (fun h => h) (fun _ _ h => h)
  have hM := HM.out.kept kD (fun h => h)
  have k1 := HK.out.trans kD (fun _ _ h => h)
  clear HH HM HK kD hlk a0 a1 q2
  generalize w1'.drewN nq = w1 at *
  obtain ⟨b0, b1, b2⟩ := hM.cells
  have q1 : w1.cell? ⟨hb, 1, none⟩ = some v := cell_of h1.blk
  have q2 : w1.cell? ⟨hb, 2, none⟩ = some (.map (some mb)) := cell_of h1.blk
  have hmp := h1.mp
  obtain ⟨ap1, ap2⟩ := h1.apart
  rcases h1.own.shape with ⟨-, rfl⟩ | ⟨g, cap, rfl, hg1, hg2, hlc, hcm, hfz, hcl⟩
  · simp at hi
  obtain ⟨ap2, ap3⟩ := ap2 g rfl
  obtain ⟨-, -, c1, c2, c3⟩ := hcl i hi
  have f1 := hfz (i * 5 + 2)
  have f2 := hfz (i * 5 + 3)
  have f3 := hfz (i * 5 + 4)
  have hi' : (i : Int) < (l.length : Int) := by omega
  have hkey : (l.getD i default).1 = k := by rw [getElem_of hi] at hik; rw [Option.some.inj hik]
  have hown2 := h1.own.setV i hi x
  rw [hkey] at hown2
  have hk2 : Kept (fun y => y = g) w1 (((w1.setCell ⟨g, i * 5 + 2, none⟩ (.int .i64 x.at_)).setCell ⟨g, i * 5 + 3, none⟩ (.int .i64 x.kd)).setCell ⟨g, i * 5 + 4, none⟩ (.int .i64 x.id)) := ((Kept.set1 w1 g _ _).trans (Kept.set1 _ g _ _) (fun _ _ h => h)).trans (Kept.set1 _ g _ _) (fun _ _ h => h)
  have hmp2 := hmp.kept hk2 (Ne.symm ap3)
  rw [← mi_set h.inj (v := x) e] at hmp2
  have hHp : Hp (((w1.setCell ⟨g, i * 5 + 2, none⟩ (.int .i64 x.at_)).setCell ⟨g, i * 5 + 3, none⟩ (.int .i64 x.kd)).setCell ⟨g, i * 5 + 4, none⟩ (.int .i64 x.id)).drew base hb fv17 (.slice (some ⟨g, 0, none⟩) l.length cap) mb (l.set i (k, x)) :=
    ((⟨(hk2.block hb (lt_of h1.blk) (Ne.symm ap2)).trans h1.blk, hown2, by rw [List.length_set]; exact hmp2, set_inj h.inj e, fun y hy => by
      rcases List.mem_or_eq_of_mem_set hy with hy | hy
      · exact h.wf y hy
      · rw [hy]; exact hk, by rw [List.length_set]; exact h.len⟩ : Hp _ base hb fv17 (.slice (some ⟨g, 0, none⟩) l.length cap) mb (l.set i (k, x)))).kept (F := fun _ => False) ((Kept.refl _ _).drew) (fun h => h) (fun h => h) (fun _ _ h => h)
  have hk3 := (k1.mono (G := fun y => y = g) (fun _ _ h => h.elim)).trans hk2.drew (fun _ _ h => h)
  have hfx := fix_any HL base hb _ mb (l.set i (k, x)) i (by rw [List.length_set]; exact hi) _ hHp
  have hlen : l.length ≤ 100000 := h.len
  clear hown2 hmp2 hHp hcl hfz hkey hset hk2 h1 h k1
  go_wp2_with fail
  go_region
  all_goals (go_wp2_with fail)
  all_goals refine hfx.mono ?_
  all_goals rintro e w2 ⟨rfl, h2, k2⟩
  all_goals (go_wp2_with fail)
  all_goals go_returns
  all_goals exact ⟨rfl, h2, fix_kept (hk3.mono (fun y _ hy => .inr (.inr (by rw [hy]; rfl)))) k2 (Moved.refl _ _)⟩
end Go.Proofs.Ytkbmpmcckjhaaaa
