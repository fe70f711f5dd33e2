/- Times that are set: Due. -/
import Derived.Test.YtkbmpmcckjhaaaaTimerY
import Derived.Maps.AppendAt
import Derived.Handy
namespace Go.Proofs.Ytkbmpmcckjhaaaa
open Go.RowKit Go.Kpt HeapPure
set_option linter.unusedVariables false

/-- Of a heap in order the first one is there, and none comes ahead of it. -/
theorem min_spec {l : List (Ke × Tm)} (h : HeapPure.Good lt l) (hl : 0 < l.length) : HeapPure.get l (kk l 0) = some (vv l 0) ∧ ∀ k v, HeapPure.get l k = some v → lt v (vv l 0) = false := by
  refine ⟨(get_eq_some h.inj).2 ⟨0, ?_⟩, fun k v hg => ?_⟩
  · rw [getElem_of hl]; rfl
  · obtain ⟨i, hi⟩ := (get_eq_some h.inj).1 hg
    have hil : i < l.length := (List.getElem?_eq_some_iff.1 hi).1
    have := heaped_min ord_lt h.heaped i hil
    rw [getElem_of hil] at hi
    have hv : vv l i = v := by rw [vv_getD, Option.some.inj hi]
    rw [hv] at this
    exact this
theorem drop_first {l : List (Ke × Tm)} (h : HeapPure.Good lt l) (hl : 0 < l.length) : HeapPure.Good lt (drop lt l (kk l 0)) ∧ (drop lt l (kk l 0)).length + 1 = l.length := by
  refine ⟨drop_good ord_lt h _, ?_⟩
  rw [drop_length, ← get_isSome, (min_spec h hl).1]
  show l.length - 1 + 1 = l.length
  omega

/-- The first one is due. -/
def Dues (l : List (Ke × Tm)) (now : Int) : Prop := 0 < l.length ∧ (vv l 0).at_ ≤ now
/-- One by one the first ones, as long as they are due. -/
inductive Steps (now : Int) : List (Ke × Tm) → List Ke → List (Ke × Tm) → Prop
  | nil (l : List (Ke × Tm)) : Steps now l [] l
  | snoc {l m : List (Ke × Tm)} {ks : List Ke} : Steps now l ks m → Dues m now → Steps now l (ks ++ [kk m 0]) (drop lt m (kk m 0))

theorem TX.turn {w w' : World} {base cb : Nat} {l : List (Ke × Tm)} {Q Q' : Nat → Prop} (h : TX w base cb l Q) (k : Kept Q w w') (hQ : ∀ x, Q' x → Q x ∨ (w.heap.size ≤ x ∧ x < w'.heap.size)) : TX w' base cb l Q' := by
  obtain ⟨hb, v, mb, h, hq⟩ := h
  refine ⟨hb, v, mb, h.kept k (fun x hx hh => (hq x hh).2 hx), fun x hx => ?_⟩
  rcases hQ x hx with h1 | h1
  · exact ⟨Nat.lt_of_lt_of_le (hq x h1).1 k.size, (hq x h1).2⟩
  · exact ⟨h1.2, fun e => by have := (h.lt e).1; omega⟩

theorem TX.qlt {w : World} {base cb : Nat} {l : List (Ke × Tm)} {Q : Nat → Prop} (h : TX w base cb l Q) : ∀ x, Q x → x < w.heap.size := by
  obtain ⟨hb, v, mb, h, hq⟩ := h
  exact fun x hx => (hq x hx).1

def sliceLen : Value → Nat
  | .slice _ n _ => n
  | _ => 0
theorem own_len {w : World} {base : Nat} {e : TypeId} {v : Value} {l : List (Int × Int)} (h : OwnP w base e v l) : sliceLen v = l.length := by
  rcases h.shape with ⟨rfl, rfl⟩ | ⟨g, cap, rfl, -⟩ <;> rfl
theorem Try.info29 : (Try.prog.info? 29).map (fun i => (i.zero, i.size, i.bytes)) = some (some (.agg #[.int .i64 0, .int .i64 0]), 2, 16) := by kernel_rfl

set_option maxRecDepth 100000 in
set_option maxHeartbeats 4000000 in
theorem due_any (base cb : Nat) (l : List (Ke × Tm)) (now : Int) (G : HeapPure.Good lt l) (hle : l.length ≤ 100000) (Q : Nat → Prop) (w : World) (h : TX w base cb l Q) :
    Calls Try.prog 9 #[.pointer (some ⟨cb, 0, none⟩), .int .i64 now] w fun e w' => ∃ v ks l', e = .returned v ∧ Steps now l ks l' ∧ ¬ Dues l' now ∧ HeapPure.Good lt l' ∧ ks.length + l'.length = l.length ∧ OwnP w' w.heap.size 29 v ks ∧ TX w' base cb l' (fun x => Q x ∨ some x = v.ownBlock) ∧ Below base w w' ∧ Same Q w w' := by
  obtain ⟨i0, hi, iz0, iz1, iz2⟩ := info_parts Try.info29
  have hX0 : TX w base cb l (fun x => Q x ∨ some x = (Value.slice none 0 0).ownBlock) := h.less (fun x hx => by
    rcases hx with hx | hx
    · exact hx
    · cases hx)
  have hbase := h.sz
  have hqlt := Lib.hid h.qlt
  clear h
  go_enter Try.func9, Try.ntmps9
  go_wp2_with fail
  go_loopw [5] (fun v wr => ∃ ks l', Steps now l ks l' ∧ HeapPure.Good lt l' ∧ ks.length + l'.length = l.length ∧ OwnP wr w.heap.size 29 v ks ∧ TX wr base cb l' (fun x => Q x ∨ some x = v.ownBlock) ∧ Below base w wr ∧ Same Q w wr) (fun v _ => l.length - sliceLen v)
  case atStart => exact ⟨[], l, .nil l, G, by simp, OwnP.nil _ _ _, hX0, Below.refl _ _, Same.refl _ _⟩
  case round =>
    clear hX0
    obtain ⟨ks, l', hS, hG, hlen, hO, hX, hB, hQ⟩ := hrel
    by_cases hd : Dues l' now
    · have hn := next_some base cb l' now hd.1 hd.2 _ wr hX
      obtain ⟨hG', hlen'⟩ := drop_first hG hd.1
      have hS' := Steps.snoc hS hd
      have hml : ks.length + 1 ≤ maxLen := by unfold maxLen; omega
      have hby : (ks.length + 1) * 16 ≤ 140737488355328 := by omega
      have hsl := own_len hO
      have hown : ∀ g, u5.ownBlock = some g → w.heap.size ≤ g ∧ g < wr.heap.size := fun g hg => hO.lt g hg
      have hwr : w.heap.size ≤ wr.heap.size := hB.size
      generalize HeapPure.drop lt l' (kk l' 0) = l2 at *
      generalize kk l' 0 = k at *
      go_wp2_with fail
      refine hn.mono ?_
      clear hn
      rintro e w2 ⟨rfl, hX2, hB2, hQ2⟩
      have hO2 : OwnP w2 w.heap.size 29 u5 ks := by
        refine ⟨hO.1, ?_⟩
        rcases hO.2 with h1 | ⟨g, cap, cur, h0, hb, hg, hr⟩
        · exact .inl h1
        · exact .inr ⟨g, cap, cur, h0, hb, (hQ2 g (.inr (by rw [h0]; rfl))).trans hg, hr⟩
      have hQw : Same Q w w2 := hQ.trans (fun x hx => hQ2 x (.inl hx))
      have hBw : Below base w w2 := hB.trans hB2
      have hsz2 : wr.heap.size ≤ w2.heap.size := hB2.size
      clear hO hX hB hQ hB2 hQ2
      have kA : Below w2.heap.size w2 ((w2.alloc (.cells #[.int .i64 k.1, .int .i64 k.2] 29)).alloc (.cells #[.int .i64 k.1, .int .i64 k.2] 29)) := by go_grown
      have hI : ((w2.alloc (.cells #[.int .i64 k.1, .int .i64 k.2] 29)).alloc (.cells #[.int .i64 k.1, .int .i64 k.2] 29)).heap[w2.heap.size + 1]? = some (.cells #[.int .i64 k.1, .int .i64 k.2] 29 (0, 0)) := heap_alloc2_new _ _ _
      have hO3 : ((w2.alloc (.cells #[.int .i64 k.1, .int .i64 k.2] 29)).alloc (.cells #[.int .i64 k.1, .int .i64 k.2] 29)).ownsRow w.heap.size 29 2 u5 ks.length (pcells ks) := hO2.below kA
      have hX3 := hX2.below kA
      have hQ3 : Same Q w ((w2.alloc (.cells #[.int .i64 k.1, .int .i64 k.2] 29)).alloc (.cells #[.int .i64 k.1, .int .i64 k.2] 29)) := hQw.trans (fun x hx => hX2.same kA x (.inl hx))
      have hB3 := hBw.trans (kA.mono hX2.sz)
      have hsz3 := kA.size
      clear hO2 hX2 hQw hBw kA
      go_wp2_with (at_builtin
                   go_loud (
                     refine wpList_append_own_at _ rfl _ _ 31 rfl w.heap.size 29 i0 (.agg #[.int .i64 0, .int .i64 0]) 2 16 Try.underlying31 hi iz0 iz1 iz2 rfl (by decide) u5 ks.length (pcells ks) rfl hO3 ⟨w2.heap.size + 1, 0, none⟩ 1 1 [.int .i64 k.1, .int .i64 k.2] rfl rfl
                       (by
                         intro j u hj
                         have hplain : (⟨w2.heap.size + 1, 0, none⟩ : Addr).add j = ⟨w2.heap.size + 1, j, none⟩ := by unfold Addr.add; split <;> simp_all
                         rw [hplain]
                         exact (cell_of hI).trans (by simpa using hj)) (by intro u hu; simp at hu; rcases hu with rfl | rfl <;> rfl) hml hby (by omega) ?_
                     intro v5 w5 hown5 hgrow _ hloc
                     have hkg : Kept (fun y => some y = u5.ownBlock) _ w5 := Kept.of_grown hgrow
                     have hO5 : OwnP w5 w.heap.size 29 v5 (ks ++ [k]) := by
                       unfold OwnP
                       rw [pcells_append, List.length_append]
                       exact hown5
                     have hlt5 := hO5.lt
                     have hX5 : TX w5 base cb l2 (fun x => Q x ∨ some x = v5.ownBlock) := hX3.turn (hkg.mono (fun x _ hx => .inr hx)) (fun x hx => by
                       rcases hx with hx | hx
                       · exact .inl (.inl hx)
                       · rcases hloc with h | h
                         · exact .inl (.inr (hx.trans h))
                         · have h6 := (hlt5 x hx.symm).2
                           rw [h] at hx
                           have h7 := Option.some.inj hx
                           exact .inr ⟨by omega, h6⟩)
                     have hB5 : Below base w w5 := hB3.trans (hkg.below hX3.sz (fun x hx hh => by have := (hown x hh.symm).1; omega))
                     have hQ5 : Same Q w w5 := hQ3.trans (fun x hx => hkg.block x (hX3.qlt x (.inl hx)) (fun hh => by have := (hown x hh.symm).1; have := hqlt.out x hx; omega))
                     clear hown5 hgrow hloc hkg hO3 hX3 hQ3 hB3))
      have hsl5 := own_len hO5
      rw [List.length_append, List.length_singleton] at hsl5
      go_roundw
      case rel => exact ⟨ks ++ [k], l2, hS', hG', by rw [List.length_append, List.length_singleton]; omega, hO5, hX5, hB5, hQ5⟩
      case measure => rw [hsl, hsl5]; omega
    · have hn := next_none base cb l' now hd _ wr hX
      go_wp2_with fail
      refine hn.mono ?_
      clear hn
      rintro e w2 ⟨rfl, hB2⟩
      have k2 : Below wr.heap.size wr (w2.alloc (.cells #[.int .i64 0, .int .i64 0] 29)) := hB2.alloc hB2.size _
      have hX2 := hX.below k2
      have hO2 := hO.below k2
      have hQ2 : Same Q w (w2.alloc (.cells #[.int .i64 0, .int .i64 0] 29)) := hQ.trans (fun x hx => hX.same k2 x (.inl hx))
      have hBw := hB.trans (k2.mono hX.sz)
      clear hX hO hQ hB hB2 k2
      go_wp2_with fail
      go_ret
      exact ⟨_, ks, l', rfl, hS, hd, hG, hlen, hO2, hX2, hBw, hQ2⟩
end Go.Proofs.Ytkbmpmcckjhaaaa
