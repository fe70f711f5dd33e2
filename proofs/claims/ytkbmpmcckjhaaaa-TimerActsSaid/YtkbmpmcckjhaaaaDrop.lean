/- What a heap's functions do: Drop. -/
import Derived.Test.YtkbmpmcckjhaaaaSetNew
namespace Go.Proofs.Ytkbmpmcckjhaaaa
open Go.RowKit Go.Kpt HeapPure
set_option linter.unusedVariables false

/-- 'delete(at, k)' as a step of a region that draws. -/
theorem step_ki_del {ops : Array Oper} {o : Oper} {a : Act} {w : World} {K : Act → World → Prop} {Q : Exit → Act → World → Prop} {E : Prop} (hg : o.guard = none) (x y : Operand) (hop : o.op = Op.call { callee := Callee.builtin Builtin.delete, args := #[x, y], argTypes := #[61, 29] })
    (mb c : Nat) (m : Ke → Option Int) (hm : a.eval x = .map (some mb)) (h : Gm keyY intE w mb c m) (k : Ke) (hx : a.eval y = kv k) (hw : kok k)
    (hK : ∀ w', Gm keyY intE w' mb (if (m k).isSome then c - 1 else c) (gdel m k) → Kept (fun x => x = mb) w w' → K (a.put o.dst (.tuple #[])) w') :
    if Region.wanted o (yielded ops a.tmps) = true then Oper.wp Try.prog o a w K Q else E := by
  have hwd : Region.wanted o (yielded ops a.tmps) = true := by simp [Region.wanted, hg]
  rw [if_pos hwd]
  obtain ⟨D, h1, h2⟩ := h
  obtain ⟨w', hrun, r1, r2⟩ := h1.drop keyY.keyed Try.underlying61 (keyY.of k hw) o.type
  have hrun : (Builtin.delete_ #[61, 29] o.type #[.map (some mb), kv k]).run Try.prog w = .ok (.tuple #[]) w' := hrun
  have h3 := h2.del (h1.tidy keyY.keyed) k hw
  have h4 := Go.Kpt.own_size r1
  rw [h3.size] at h4
  have hfin := hK w' ⟨_, h4, h3⟩ (Kept.of_grown1 r2.grown)
  unfold Oper.wp
  simp [execOp, hop, resolve, invoke, builtin, hm, hx, hrun, Result.andThen]
  exact hfin

set_option maxHeartbeats 2000000 in
theorem drop_none (base hb : Nat) (v : Value) (mb : Nat) (l : List (Ke × Tm)) (k : Ke) (hk : kok k) (e : idx l k = none) (w : World) (h : Hp w base hb fv17 v mb l) :
    Calls Try.prog 21 #[.pointer (some ⟨hb, 0, none⟩), kv k] w fun e w' => e = .returned (.bool false) ∧ Below w.heap.size w w' := by
  have hA0 : Kb (w.alloc (.cells #[.int .i64 k.1, .int .i64 k.2] 29)) w.heap.size k := heap_alloc_new _ _
  have k0 : Below w.heap.size w (w.alloc (.cells #[.int .i64 k.1, .int .i64 k.2] 29)) := (Below.refl _ _).alloc (Nat.le_refl _) _
  obtain ⟨w0, hw0⟩ : ∃ w1, w.alloc (.cells #[.int .i64 k.1, .int .i64 k.2] 29) = w1 := ⟨_, rfl⟩
  rw [hw0] at hA0 k0
  have h1 := h.kept (Kept.of_below (F := fun _ => False) k0) (fun h => h) (fun h => h) (fun _ _ h => h)
  have q2 : w0.cell? ⟨hb, 2, none⟩ = some (.map (some mb)) := cell_of h1.blk
  obtain ⟨a0, a1⟩ := hA0.cells
  have hm : mi l k = none := by unfold mi; rw [e]; rfl
  have hlk := fun n => ki_run (h1.mp.kept (F := fun _ => False) ((Kept.refl _ w0).drewN n) (fun h => h)) k hk
  rw [hm] at hlk
  clear h h1
  go_enter Try.func21, Try.ntmps21
  go_wp2_with fail
  go_quiet (fail)
  go_wp2_with fail
  go_ret
  exact ⟨rfl, below_drewN k0 _⟩

set_option maxRecDepth 1000000 in
set_option maxHeartbeats 8000000 in
theorem drop_some (HL : LessC) (base hb : Nat) (v : Value) (mb : Nat) (l : List (Ke × Tm)) (k : Ke) (hk : kok k) (i : Nat) (e : idx l k = some i) (w : World) (h : Hp w base hb fv17 v mb l) :
    Calls Try.prog 21 #[.pointer (some ⟨hb, 0, none⟩), kv k] w fun e w' => e = .returned (.bool true) ∧ ∃ v', Hp w' base hb fv17 v' mb (drop lt l k) ∧ Kept (fun y => y = hb ∨ own mb v y) w w' ∧ Moved w v v' := by
  obtain ⟨hi, hik⟩ := idx_some e
  have hdrop := drop_eq (lt := lt) e
  have hA0 : Kb (w.alloc (.cells #[.int .i64 k.1, .int .i64 k.2] 29)) w.heap.size k := heap_alloc_new _ _
  have k0 : Kept (fun _ => False) w (w.alloc (.cells #[.int .i64 k.1, .int .i64 k.2] 29)) := (Kept.refl _ w).alloc _
  obtain ⟨w0', hw0⟩ : ∃ w1, w.alloc (.cells #[.int .i64 k.1, .int .i64 k.2] 29) = w1 := ⟨_, rfl⟩
  rw [hw0] at hA0 k0
  have h1' := h.kept k0 (fun h => h) (fun h => h) (fun _ _ h => h)
  obtain ⟨a0, a1⟩ := hA0.cells
  have q2 : w0'.cell? ⟨hb, 2, none⟩ = some (.map (some mb)) := cell_of h1'.blk
  have hm : mi l k = some (i : Int) := by unfold mi; rw [e]; rfl
  have hlk := fun n => ki_run (h1'.mp.kept (F := fun _ => False) ((Kept.refl _ w0').drewN n) (fun h => h)) k hk
  rw [hm] at hlk
  have HH := Lib.hid h1'
  have HA := Lib.hid hA0
  have K0 := Lib.hid k0
  have HW := Lib.hid h
  clear h1' hA0 k0 h
  go_enter Try.func21, Try.ntmps21
  go_wp2_with fail
  go_quiet (fail)
  have kD : Kept (fun _ => False) w0' (w0'.drewN nq) := (Kept.refl _ w0').drewN nq
  have h := HH.out.kept kD (fun h => h) (fun h => h) (fun _ _ h => h)
  have hA := HA.out.kept kD (fun h => h)
  have k1w := K0.out.trans kD (fun _ _ h => h)
  clear HH HA K0 kD hlk a0 a1 q2
  generalize w0'.drewN nq = w0 at *
  have q2 : w0.cell? ⟨hb, 2, none⟩ = some (.map (some mb)) := cell_of h.blk
  have hmp := h.mp
  obtain ⟨ap1, ap2⟩ := h.apart
  rcases h.own.shape with ⟨-, rfl⟩ | ⟨g, cap, rfl, hg1, hg2, hlc, hcm, -, -⟩
  · simp at hi
  obtain ⟨ap2, ap3⟩ := ap2 g rfl
  have q1 : w0.cell? ⟨hb, 1, none⟩ = some (.slice (some ⟨g, 0, none⟩) l.length cap) := cell_of h.blk
  obtain ⟨n, hn⟩ : ∃ n, l.length = n + 1 := ⟨l.length - 1, by omega⟩
  have hsw := swap_any base hb fv17 _ mb l i n hi (by omega) w0 h
  have hkey : (l.getD i default).1 = k := by rw [getElem_of hi] at hik; rw [Option.some.inj hik]
  have hmk : mi (swp l i n) k = some (n : Int) := by
    unfold mi
    rw [idx_swp h.inj hi (by omega), if_pos hkey.symm]
    rfl
  have hmc := mi_cut h.inj e
  have hcut : cut l i = (swp l i n).take n := by unfold cut; rw [hn]; rfl
  rw [hn, show n + 1 - 1 = n from rfl] at hmc hdrop
  have hwfc := cut_wf hi h.wf
  have hinjc := cut_inj h.inj hi
  have hlenc := length_cut l i
  rw [hn] at hlenc
  have hlen := h.len
  have hcn : (n : Int) ≤ (cap : Int) := by omega
  have hin : i ≤ n := by omega
  have hnb : n + 1 ≤ 100000 := by omega
  rw [hn] at q1 hlc
  have hmpl := hmp
  rw [hn] at hmpl
  have HX := Lib.hid (And.intro hwfc (And.intro hinjc hlenc))
  have HM := Lib.hid hmc
  have HD := Lib.hid hdrop
  have HC := Lib.hid hcut
  have HN := Lib.hid hn
  have HLe := Lib.hid hlen
  clear hwfc hinjc hlenc hmc hkey hik hdrop hcut h hlen
  by_cases hlast : i < n
  all_goals
    go_wp2_with fail
    refine hsw.mono ?_
    rintro e w1 ⟨rfl, h1, k1⟩
    have b1 := h1.blk
    have r1 : w1.cell? ⟨hb, 1, none⟩ = some (.slice (some ⟨g, 0, none⟩) (n + 1) cap) := by rw [← HN.out]; exact cell_of b1
    have r2 : w1.cell? ⟨hb, 2, none⟩ = some (.map (some mb)) := cell_of b1
    have f1 : w1.frozen? ⟨hb, 1, none⟩ = false := frozen_of b1
    have b2 : (w1.setCell ⟨hb, 1, none⟩ (.slice (some ⟨g, 0, none⟩) n cap)).heap[hb]? = some (.cells #[fv17, .slice (some ⟨g, 0, none⟩) n cap, .map (some mb)] 64 (0, 0)) := set_same (i := 1) _ b1
    have hks : Kept (fun y => y = hb) w1 (w1.setCell ⟨hb, 1, none⟩ (.slice (some ⟨g, 0, none⟩) n cap)) := Kept.set1 w1 hb 1 _
    have hmp1 := h1.mp.kept hks (Ne.symm ap1)
    have hown1 := (h1.own.cut (m := n) (by rw [swp_length, HN.out]; omega)).kept hks (fun g' h1 h2 => by cases h1; exact ap2 h2)
    rw [← HC.out] at hown1
    rw [swp_length, HN.out] at hmp1
    have hkw : Kept (fun y => y = hb ∨ own mb (.slice (some ⟨g, 0, none⟩) l.length cap) y) w (w1.setCell ⟨hb, 1, none⟩ (.slice (some ⟨g, 0, none⟩) n cap)) := ((k1w.mono (fun _ _ h => h.elim)).trans k1 (F := fun y => y = hb ∨ own mb (.slice (some ⟨g, 0, none⟩) l.length cap) y) (fun y _ h => .inr h)).trans hks (fun y _ h => .inl h)
    have hgw := (HW.out.own.lt g rfl).2
    have hmw := HW.out.mp.lt
    have hbw := lt_of HW.out.blk
    have hA2 := (hA.kept k1 (fun hh => by
      rcases hh with hh | hh
      · omega
      · have : w.heap.size = g := Option.some.inj hh
        omega)).kept hks (fun hh => by omega)
    clear hsw q1 q2 hm hmp hmpl h1 k1 hA hks
    go_wp2_with fail
    clear r1 r2 f1 b1
    generalize w1.setCell ⟨hb, 1, none⟩ (.slice (some ⟨g, 0, none⟩) n cap) = w2 at *
    have r2 : w2.cell? ⟨hb, 2, none⟩ = some (.map (some mb)) := cell_of b2
    obtain ⟨a0, a1⟩ := hA2.cells
    have hDD : Kept (fun _ => False) w2 w2.drew := (Kept.refl _ w2).drew
    have hmp2 := hmp1.kept hDD (fun h => h)
    go_region_law ((refine step_ki_del (by rfl) _ _ (by rfl) mb (n + 1) (mi (swp l i n)) (by rfl) hmp2 k (by rfl) hk ?_; intro w3 hmp3 hk3d; rw [HM.out, hmk] at hmp3))
    all_goals
      have hk3 : Kept (fun x => x = mb) w2 w3 := (hDD.mono (fun _ _ h => h.elim)).trans hk3d (fun _ _ h => h)
      go_wp2_with fail
      have b3 := (hk3.block hb (lt_of b2) ap1).trans b2
      have hown3 := hown1.kept hk3 (fun g' h1 h2 => by cases h1; exact ap3 h2)
      have hHp : Hp w3 base hb fv17 (.slice (some ⟨g, 0, none⟩) n cap) mb (cut l i) :=
        ⟨b3, hown3, by rw [HX.out.2.2]; exact hmp3, HX.out.2.1, HX.out.1, by rw [HX.out.2.2]; have := HLe.out; have := HN.out; omega⟩
      have hkE : Kept (fun y => y = hb ∨ own mb (.slice (some ⟨g, 0, none⟩) l.length cap) y) w w3 := hkw.trans hk3 (fun y _ h => .inr (.inl h))
      have hmv : Moved w (.slice (some ⟨g, 0, none⟩) l.length cap) (.slice (some ⟨g, 0, none⟩) n cap) := fun g' hg' => .inl hg'
      clear hown1 hmp1 hmp3 hown3 b2
      first
        | (have hd : drop lt l k = fix lt (cut l i) i := by rw [HD.out, if_pos hlast]
           refine (fix_any HL base hb _ mb (cut l i) i (by rw [HX.out.2.2]; exact hlast) w3 hHp).mono ?_
           rintro e w5 ⟨rfl, h5, k5⟩
           go_wp2_with fail
           go_ret
           exact ⟨rfl, _, by rw [hd]; exact h5, fix_kept hkE k5 hmv, hmv⟩)
        | (have hd : drop lt l k = cut l i := by rw [HD.out, if_neg (by omega)]
           go_ret
           exact ⟨rfl, _, by rw [hd]; exact hHp, hkE, hmv⟩)
end Go.Proofs.Ytkbmpmcckjhaaaa
