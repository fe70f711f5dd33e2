/- What a heap's functions do: one exchange. -/
import Derived.Test.YtbnpipfmeekbdaaRows
import Derived.Test.YtbnpipfmeekbdaaPairs
import Derived.Test.YtbnpipfmeekbdaaIntMapPut2
import Derived.Test.YtbnpipfmeekbdaaHeapPure
import Derived.Deep.RegionHeld3
import Derived.Deep.CutRange
import Derived.BigRegion
import Derived.BigQuiet
import Derived.Handy
namespace Go.Proofs.Ytbnpipfmeekbdaa
open Go.RowKit Go.Kpt HeapPure
set_option linter.unusedVariables false

theorem zeroI (w : World) : (zeroValue 3).run Try.prog w = .ok (.int .i64 0) w := by kernel_rfl
theorem swp_length {α : Type} (l : List α) (i j : Nat) : (swp l i j).length = l.length := length_swp l i j

/-- Where each key stands. -/
def mi (l : List (Int × Int)) : Int → Option Int := fun k => (idx l k).map (fun i : Nat => (i : Int))

/-- A heap: its own block, its items' slice, its map's block. -/
structure Hp (w : World) (base hb : Nat) (fv v : Value) (mb : Nat) (l : List (Int × Int)) : Prop where
  blk : w.heap[hb]? = some (.cells #[fv, v, .map (some mb)] 47 (0, 0))
  own : OwnP w base 49 v l
  mp : Mp Try.prog 3 3 w mb l.length (mi l)
  inj : Inj l
  wf : ∀ x ∈ l, (Lit.int .i64 x.1).wf = true
  len : l.length ≤ 100000

theorem set_set_swp (l : List (Int × Int)) (i j : Nat) (hi : i < l.length) (hj : j < l.length) : (l.set i (l.getD j (0, 0))).set j (l.getD i (0, 0)) = swp l i j := by
  unfold swp
  rw [List.getElem?_eq_getElem hi, List.getElem?_eq_getElem hj]
  simp [List.getD_eq_getElem?_getD, hi, hj]

theorem Hp.apart {w : World} {base hb : Nat} {fv v : Value} {mb : Nat} {l : List (Int × Int)} (h : Hp w base hb fv v mb l) : hb ≠ mb ∧ ∀ g, v.ownBlock = some g → g ≠ hb ∧ g ≠ mb := by
  obtain ⟨D, ⟨es, clock, hm, -⟩, -⟩ := h.mp
  refine ⟨fun e => ?_, fun g hg => ?_⟩
  · have := h.blk
    rw [e, hm] at this
    cases this
  · rcases h.own.2 with ⟨h1, -⟩ | ⟨g', cap, cur, h1, -, hg', -⟩
    · rw [h1] at hg; cases hg
    · rw [h1] at hg
      cases hg
      refine ⟨fun e => ?_, fun e => ?_⟩
      · have h2 := h.blk
        dsimp only at e
        rw [e] at hg'
        rw [h2] at hg'
        cases hg'
      · dsimp only at e
        rw [e, hm] at hg'
        cases hg'

theorem getElem_of {l : List (Int × Int)} {i : Nat} (hi : i < l.length) : l[i]? = some (l.getD i (0, 0)) := by simp [List.getD_eq_getElem?_getD, hi]
theorem idx_swp {l : List (Int × Int)} (hI : Inj l) {i j : Nat} (hi : i < l.length) (hj : j < l.length) (k : Int) :
    idx (swp l i j) k = if k = (l.getD i (0, 0)).1 then some j else if k = (l.getD j (0, 0)).1 then some i else idx l k := by
  have hS := swp_inj hI hi hj
  by_cases h1 : k = (l.getD i (0, 0)).1
  · rw [if_pos h1]
    refine idx_of (v := (l.getD i (0, 0)).2) hS ?_
    rw [get_swp l hi hj, if_pos rfl, getElem_of hi, h1]
  · rw [if_neg h1]
    by_cases h2 : k = (l.getD j (0, 0)).1
    · rw [if_pos h2]
      by_cases e : i = j
      · exact absurd (by rw [h2, e]) h1
      · refine idx_of (v := (l.getD j (0, 0)).2) hS ?_
        rw [get_swp l hi hj, if_neg e, if_pos rfl, getElem_of hj, h2]
    · rw [if_neg h2]
      cases e : idx l k with
      | none =>
        cases e2 : idx (swp l i j) k with
        | none => rfl
        | some n =>
          obtain ⟨m, hm⟩ := (swp_has hi hj k _).1 ⟨n, (idx_some e2).2⟩
          exact absurd hm (idx_none e m _)
      | some n =>
        obtain ⟨hn, hv⟩ := idx_some e
        refine idx_of (v := vv l n) hS ?_
        rw [get_swp l hi hj]
        rw [if_neg (fun h => h2 (by rw [← h]; rw [getElem_of hn] at hv; rw [Option.some.inj hv])), if_neg (fun h => h1 (by rw [← h]; rw [getElem_of hn] at hv; rw [Option.some.inj hv]))]
        exact hv
theorem mi_swp {l : List (Int × Int)} (hI : Inj l) {i j : Nat} (hi : i < l.length) (hj : j < l.length) :
    mput (mput (mi l) (l.getD j (0, 0)).1 i) (l.getD i (0, 0)).1 j = mi (swp l i j) := by
  funext k
  unfold mi mput
  rw [idx_swp hI hi hj]
  by_cases h1 : k = (l.getD i (0, 0)).1
  · rw [if_pos h1, if_pos h1]; rfl
  · rw [if_neg h1, if_neg h1]
    by_cases h2 : k = (l.getD j (0, 0)).1
    · rw [if_pos h2, if_pos h2]; rfl
    · rw [if_neg h2, if_neg h2]
theorem mi_at {l : List (Int × Int)} (hI : Inj l) {i : Nat} (hi : i < l.length) : mi l (l.getD i (0, 0)).1 = some (i : Int) := by
  unfold mi
  rw [idx_of (k := (l.getD i (0, 0)).1) (v := (l.getD i (0, 0)).2) hI (getElem_of hi)]
  rfl

set_option maxRecDepth 1000000 in
set_option maxHeartbeats 16000000 in
theorem swap_any (base hb : Nat) (fv v : Value) (mb : Nat) (l : List (Int × Int)) (i j : Nat) (hi : i < l.length) (hj : j < l.length) (w : World) (h : Hp w base hb fv v mb l) :
    Calls Try.prog 17 #[.pointer (some ⟨hb, 0, none⟩), .int .i64 i, .int .i64 j] w fun e w' => e = .returned (.tuple #[]) ∧ Hp w' base hb fv v mb (swp l i j) ∧ Kept (fun x => x = mb ∨ some x = v.ownBlock) w w' := by
  rcases h.own.shape with ⟨-, rfl⟩ | ⟨g, cap, rfl, hg1, hg2, hlc, hcm, hfz, hcl⟩
  · simp at hi
  obtain ⟨ap1, ap2⟩ := h.apart
  obtain ⟨ap2, ap3⟩ := ap2 g rfl
  have q1 : w.cell? ⟨hb, 1, none⟩ = some (.slice (some ⟨g, 0, none⟩) l.length cap) := cell_of h.blk
  have q2 : w.cell? ⟨hb, 2, none⟩ = some (.map (some mb)) := cell_of h.blk
  obtain ⟨a0, a1⟩ := hcl i hi
  obtain ⟨b0, b1⟩ := hcl j hj
  have fa0 := hfz (i * 2)
  have fa1 := hfz (i * 2 + 1)
  have fb0 := hfz (j * 2)
  have fb1 := hfz (j * 2 + 1)
  have hi' : (i : Int) < (l.length : Int) := by omega
  have hj' : (j : Int) < (l.length : Int) := by omega
  have hlen := h.len
  -- behind the exchange
  have hswp := set_set_swp l i j hi hj
  have hmi := mi_swp h.inj hi hj
  have hmiI := mi_at h.inj hi
  have hmiJ := mi_at h.inj hj
  have hwI := h.wf _ (List.mem_of_getElem? (getElem_of hi))
  have hwJ := h.wf _ (List.mem_of_getElem? (getElem_of hj))
  have hown2 := (h.own.set2 i hi (l.getD j (0, 0)).1 (l.getD j (0, 0)).2).set2 j (by simpa using hj) (l.getD i (0, 0)).1 (l.getD i (0, 0)).2
  rw [show ((l.getD j (0, 0)).1, (l.getD j (0, 0)).2) = l.getD j (0, 0) from rfl, show ((l.getD i (0, 0)).1, (l.getD i (0, 0)).2) = l.getD i (0, 0) from rfl, hswp] at hown2
  have hk2 : Kept (fun x => x = g) w ((((w.setCell ⟨g, i * 2, none⟩ (.int .i64 (l.getD j (0, 0)).1)).setCell ⟨g, i * 2 + 1, none⟩ (.int .i64 (l.getD j (0, 0)).2)).setCell ⟨g, j * 2, none⟩ (.int .i64 (l.getD i (0, 0)).1)).setCell ⟨g, j * 2 + 1, none⟩ (.int .i64 (l.getD i (0, 0)).2)) :=
    (((Kept.set1 w g _ _).trans (Kept.set1 _ g _ _) (fun _ _ h => h)).trans (Kept.set1 _ g _ _) (fun _ _ h => h)).trans (Kept.set1 _ g _ _) (fun _ _ h => h)
  have hown2 : OwnP ((((w.setCell ⟨g, i * 2, none⟩ (.int .i64 (l.getD j (0, 0)).1)).setCell ⟨g, i * 2 + 1, none⟩ (.int .i64 (l.getD j (0, 0)).2)).setCell ⟨g, j * 2, none⟩ (.int .i64 (l.getD i (0, 0)).1)).setCell ⟨g, j * 2 + 1, none⟩ (.int .i64 (l.getD i (0, 0)).2)).drew base 49 (.slice (some ⟨g, 0, none⟩) l.length cap) (swp l i j) := hown2.kept ((Kept.refl (fun _ => False) _).drew) (fun _ _ h => h)
  have hk2 := hk2.drew
  have hrest : Inj (swp l i j) ∧ (∀ x ∈ swp l i j, (Lit.int .i64 x.1).wf = true) ∧ (swp l i j).length ≤ 100000 := by
    refine ⟨swp_inj h.inj hi hj, fun x hx => ?_, by rw [swp_length]; exact h.len⟩
    obtain ⟨n, hn⟩ := List.mem_iff_getElem?.1 hx
    obtain ⟨m, hm⟩ := (swp_has hi hj x.1 x.2).1 ⟨n, hn⟩
    exact h.wf _ (List.mem_of_getElem? hm)
  have hcl2 : ∀ W, OwnP W base 49 (.slice (some ⟨g, 0, none⟩) l.length cap) (swp l i j) → W.cell? ⟨g, i * 2, none⟩ = some (.int .i64 (l.getD j (0, 0)).1) ∧ W.cell? ⟨g, j * 2, none⟩ = some (.int .i64 (l.getD i (0, 0)).1) := by
    intro W hW
    rcases hW.shape with ⟨h1, -⟩ | ⟨g', cap', h1, -, -, -, -, -, hc⟩
    · cases h1
    · injection h1 with e1 _ _
      injection e1 with e1
      injection e1 with e1 _ _
      subst e1
      have e1 : (swp l i j).getD i (0, 0) = l.getD j (0, 0) := by
        rw [List.getD_eq_getElem?_getD, get_swp l hi hj]
        by_cases e : i = j
        · subst e; rw [if_pos rfl, getElem_of hi]; rfl
        · rw [if_neg e, if_pos rfl, getElem_of hj]; rfl
      have e2 : (swp l i j).getD j (0, 0) = l.getD i (0, 0) := by
        rw [List.getD_eq_getElem?_getD, get_swp l hi hj, if_pos rfl, getElem_of hi]; rfl
      have c1 := (hc i (by rw [swp_length]; exact hi)).1
      have c2 := (hc j (by rw [swp_length]; exact hj)).1
      rw [e1] at c1
      rw [e2] at c2
      exact ⟨c1, c2⟩
  obtain ⟨x, hx⟩ : ∃ x, l.getD i (0, 0) = x := ⟨_, rfl⟩
  obtain ⟨y, hy⟩ : ∃ y, l.getD j (0, 0) = y := ⟨_, rfl⟩
  rw [hx] at a0 a1 hown2 hk2 hmi hmiI hwI hcl2
  rw [hy] at b0 b1 hown2 hk2 hmi hmiJ hwJ hcl2
  obtain ⟨x0, x1⟩ := x
  obtain ⟨y0, y1⟩ := y
  dsimp only at a0 a1 b0 b1 hown2 hk2 hmi hmiI hmiJ hwI hwJ hcl2
  have hsl := swp_length l i j
  have hmp := h.mp
  have hblk := h.blk
  have HC := Lib.hid hcl2
  have HO := Lib.hid hown2
  have HK := Lib.hid hk2
  have HM := Lib.hid hmp
  have HB := Lib.hid hblk
  have HR := Lib.hid hrest
  have HI := Lib.hid (And.intro hmi (And.intro hmiI hmiJ))
  have HS := Lib.hid hsl
  clear hcl hfz hown2 hk2 hmp hblk hcl2 hswp hrest hmi hmiI hmiJ hsl h
  go_enter Try.func17, Try.ntmps17
  go_upto_region 0 with fail
  go_cut [6] from 6 (fun _ wx => OwnP wx base 49 (.slice (some ⟨g, 0, none⟩) l.length cap) (swp l i j) ∧ Kept (fun x => x = g) w wx)
  case first =>
    have hij : i = j ∨ ¬ i = j := by omega
    rcases hij with rfl | hij
    · rw [hx] at hy
      cases hy
      clear hx
      go_region
      go_wp2
      go_meet
      case rel => exact ⟨HO.out, HK.out⟩
    · clear hx hy
      go_region
      go_wp2
      go_meet
      case rel => exact ⟨HO.out, HK.out⟩
  case rest =>
    obtain ⟨hown2, hk2⟩ := hcut
    clear HO HK a0 a1 b0 b1 q1 q2 fa0 fa1 fb0 fb1 hx hy
    have hblk2 := (hk2.block hb (lt_of HB.out) (Ne.symm ap2)).trans HB.out
    have hmp2 := HM.out.kept hk2 (Ne.symm ap3)
    clear HM HB
    have hD : Kept (fun _ => False) wc wc.drew := (Kept.refl _ _).drew
    have hmpD := hmp2.kept hD (fun h => h)
    obtain ⟨hmi, hmiI, hmiJ⟩ := HI.out
    obtain ⟨z1, z2, z3, t1, t2, w1, w2, ent1, ent2, st1, ent3, st2, mp3, kp1, kp2⟩ := mp_two hmpD Try.underlying3 Try.underlying35 Try.underlying3 zeroI (by unfold maxLen; omega) y0 x0 i j hwJ hwI (by exact WalkArith.wf_i64 (by omega)) (by exact WalkArith.wf_i64 (by omega)) (by rw [hmiJ]; rfl) (by rw [hmiI]; rfl)
    rw [hmi] at mp3
    clear hmi hmiI hmiJ HI
    have hownD := hown2.kept hD (fun _ _ h => h)
    have hblkD := (hD.block hb (lt_of hblk2) (fun h => h)).trans hblk2
    have hown3 := hownD.kept kp1 (fun g' h1 h2 => by cases h1; exact ap3 h2)
    have hblk3 := (kp1.block hb (lt_of hblkD) ap1).trans hblkD
    have hown4 := hownD.kept kp2 (fun g' h1 h2 => by cases h1; exact ap3 h2)
    have hblk4 := (kp2.block hb (lt_of hblkD) ap1).trans hblkD
    have HS1 := Lib.hid (And.intro (show wc.cell? ⟨hb, 1, none⟩ = some (.slice (some ⟨g, 0, none⟩) l.length cap) from cell_of hblk2) (And.intro (show wc.cell? ⟨hb, 2, none⟩ = some (.map (some mb)) from cell_of hblk2) (HC.out wc hown2)))
    have HSD := Lib.hid (And.intro (show wc.drew.cell? ⟨hb, 1, none⟩ = some (.slice (some ⟨g, 0, none⟩) l.length cap) from cell_of hblk2) (And.intro (show wc.drew.cell? ⟨hb, 2, none⟩ = some (.map (some mb)) from cell_of hblk2) (HC.out wc.drew hownD)))
    have HS2 := Lib.hid (And.intro (show w1.cell? ⟨hb, 1, none⟩ = some (.slice (some ⟨g, 0, none⟩) l.length cap) from cell_of hblk3) (And.intro (show w1.cell? ⟨hb, 2, none⟩ = some (.map (some mb)) from cell_of hblk3) (HC.out w1 hown3)))
    have HS3 := Lib.hid (And.intro (show w2.cell? ⟨hb, 1, none⟩ = some (.slice (some ⟨g, 0, none⟩) l.length cap) from cell_of hblk4) (And.intro (show w2.cell? ⟨hb, 2, none⟩ = some (.map (some mb)) from cell_of hblk4) (HC.out w2 hown4)))
    have HEND : Hid (Hp w2 base hb fv (.slice (some ⟨g, 0, none⟩) l.length cap) mb (swp l i j) ∧ Kept (fun x => x = mb ∨ some x = (Value.slice (some ⟨g, 0, none⟩) l.length cap).ownBlock) w w2) :=
      ⟨⟨hblk4, hown4, HS.out.symm ▸ mp3, HR.out.1, HR.out.2.1, HR.out.2.2⟩, ((hk2.drew).mono (G := fun x => x = mb ∨ some x = some g) (fun x _ h => .inr (by rw [h]))).trans kp2 (fun x _ h => .inl h)⟩
    clear HC HR HS hown2 hk2 hmp2 hblk2 hmpD hownD hblkD hD hown3 hblk3 kp1 kp2 hown4 hblk4 mp3 hwI hwJ
    go_wp2_with fail
    go_region_held3 (fun V => V.cell? ⟨hb, 1, none⟩ = some (.slice (some ⟨g, 0, none⟩) l.length cap) ∧ V.cell? ⟨hb, 2, none⟩ = some (.map (some mb)) ∧ V.cell? ⟨g, i * 2, none⟩ = some (.int .i64 y0) ∧ V.cell? ⟨g, j * 2, none⟩ = some (.int .i64 x0))
      (first | exact HS1.out | exact HSD.out | exact HS2.out | exact HS3.out)
      (first | fail | fail)
    all_goals
      go_wp2
      go_end0
      exact ⟨rfl, HEND.out.1, HEND.out.2⟩
end Go.Proofs.Ytbnpipfmeekbdaa
