/- What a cache's functions do: Set, Least, Worth. -/
import Derived.Test.YtamifcgljockaaaCache
import Derived.Deep.RegionWith
namespace Go.Proofs.Ytamifcgljockaaa
open Go.RowKit Go.Kpt HeapPure RatioPure
set_option linter.unusedVariables false

theorem fits_of {c d up : Nat} (hd : 0 < d) (h : c * d + up < 18446744073709551616) : Fits c up d := by
  refine ⟨hd, ?_, ?_⟩
  · unfold hi; omega
  · unfold cy lo; omega

/-- What a sandbox is worth by the clock. -/
def mk (c up d : Nat) (id : Int) (hd : 0 < d) (h : c * d + up < 18446744073709551616) (hs : Sm d) : Mk := ⟨c * d + up, d, id, h, hs, hd⟩

set_option maxRecDepth 100000 in
set_option maxHeartbeats 2000000 in
theorem cset_any (HL : LessC) (base cb : Nat) (l : List (Int × Mk)) (c : Nat) (k : Int) (hk : (Lit.int .i64 k).wf = true) (o co d : Nat) (ho : o ≤ 1023) (hco : co ≤ 1023) (hd : 0 < d) (hs : Sm d) (hf : c * d + o * co < 18446744073709551616) (hl : l.length + 1 ≤ 100000) (w : World) (h : WB w base cb l c) :
    Calls Try.prog 10 #[.pointer (some ⟨cb, 0, none⟩), .int .i64 k, .int .u64 o, .int .u64 co, .int .u64 d] w fun e w' => e = .returned (.bool true) ∧ WB w' base cb (setAt lt l k (mk c (o * co) d k hd hf hs)) c ∧ Below base w w' ∧ Beside w w' := by
  have hsz := h.sz
  obtain ⟨hb, v, mb, h⟩ := h
  have hc : Sm c := by unfold Sm; have : c * 1 ≤ c * d := Nat.mul_le_mul_left c hd; omega
  have hup : o * co ≤ 1023 * 1023 := Nat.mul_le_mul ho hco
  obtain ⟨x, hx⟩ : ∃ x, mk c (o * co) d k hd hf hs = x := ⟨_, rfl⟩
  have hab := above_yes c (o * co) d hc (by unfold Sm; omega) hs (fits_of hd hf) w
  have x1 : c * d + o * co = x.n := by rw [← hx]; rfl
  have x2 : d = x.d := by rw [← hx]; rfl
  have x3 : k = x.id := by rw [← hx]; rfl
  rw [hx]
  rw [x1] at hab
  obtain ⟨up, hu⟩ : ∃ up, o * co = up := ⟨_, rfl⟩
  have e1 : (o : Int) * (co : Int) = (up : Int) := by rw [← hu]; push_cast; rfl
  have e2 : IntKind.u64.wrap (up : Int) = (up : Int) := IntWalk.u64_in _ ⟨by omega, by omega⟩
  rw [hu] at hab
  have q0 : w.cell? ⟨cb, 0, none⟩ = some (.pointer (some ⟨hb, 0, none⟩)) := cell_of h.blk
  have q1 : w.cell? ⟨cb, 1, none⟩ = some (.int .u64 c) := cell_of h.blk
  have H := Lib.hid h
  have X2 := Lib.hid x2
  have X3 := Lib.hid x3
  have XK := Lib.hid hk
  clear hx x1 x2 x3 hu hup hf h
  go_enter Try.func10, Try.ntmps10
  go_wp2_with fail
  refine hab.mono ?_
  clear hab
  rintro e w1 ⟨rfl, hB1⟩
  have h1 := H.out.below hB1
  have h2 := h1.below ((Below.refl _ _).alloc (Nat.le_refl _) (.cells #[.int .u64 x.n, .int .u64 d] 34))
  have hN : (w1.alloc (.cells #[.int .u64 x.n, .int .u64 d] 34)).heap[w1.heap.size]? = some (.cells #[.int .u64 x.n, .int .u64 d] 34 (0, 0)) := heap_alloc_new _ _
  have hB2 : Below base w (w1.alloc (.cells #[.int .u64 x.n, .int .u64 d] 34)) := (hB1.mono hsz).alloc (by have := hB1.size; omega) _
  obtain ⟨w2, hw2⟩ : ∃ w2, w1.alloc (.cells #[.int .u64 x.n, .int .u64 d] 34) = w2 := ⟨_, rfl⟩
  rw [hw2] at h2 hN hB2
  have n0 : w2.cell? ⟨w1.heap.size, 0, none⟩ = some (.int .u64 x.n) := cell_of hN
  have n1 : w2.cell? ⟨w1.heap.size, 1, none⟩ = some (.int .u64 d) := cell_of hN
  have p0 : w2.cell? ⟨cb, 0, none⟩ = some (.pointer (some ⟨hb, 0, none⟩)) := cell_of h2.blk
  have h3 := h2.below ((Below.refl _ _).drew)
  have hset := heapset_any HL base hb v mb l k x hk hl w2.drew h3.sz h3.hp
  rw [show mv x = .agg #[.int .u64 x.n, .int .u64 d, .int .i64 k] by rw [X2.out, X3.out]] at hset
  have H3 := Lib.hid h3
  have HB := Lib.hid (hB2.drew)
  have HBe := Lib.hid (show Beside w w2.drew from (Beside.of_below hB1).trans (Beside.of_below (show Below w1.heap.size w1 w2.drew from by rw [← hw2]; exact ((Below.refl _ _).alloc (Nat.le_refl _) _).drew)))
  clear h1 h2 hN hB1 hB2 h3 H hk
  go_wp2_with fail
  go_region_with (go_at_call 22; refine hset.mono ?_; rintro e w4 ⟨rfl, v', h5, k5, -⟩)
  all_goals (go_wp2_with fail)
  all_goals go_ret
  all_goals
    obtain ⟨h6, hB6⟩ := H3.out.next h5 k5
    exact ⟨rfl, ⟨hb, v', mb, h6⟩, HB.out.trans hB6, HBe.out.trans (H3.out.beside k5)⟩

set_option maxHeartbeats 1000000 in
theorem cleast_none (base cb : Nat) (c : Nat) (w : World) (h : WB w base cb [] c) : Calls Try.prog 17 #[.pointer (some ⟨cb, 0, none⟩)] w fun e w' => e = .returned (.tuple #[.int .i64 0, .bool false]) ∧ Below w.heap.size w w' := by
  obtain ⟨hb, v, mb, h⟩ := h
  have q0 : w.cell? ⟨cb, 0, none⟩ = some (.pointer (some ⟨hb, 0, none⟩)) := cell_of h.blk
  go_enter Try.func17, Try.ntmps17
  go_wp2_with fail
  refine (min_none base hb v mb w h.hp).mono ?_
  rintro e w1 ⟨rfl, hB⟩
  have hB2 := hB.alloc (o := .cells #[.int .u64 0, .int .u64 0, .int .i64 0] 50) hB.size
  go_wp2_with fail
  go_returns
  exact ⟨rfl, hB2⟩
set_option maxHeartbeats 1000000 in
theorem cleast_some (base cb : Nat) (l : List (Int × Mk)) (c : Nat) (hl : 0 < l.length) (w : World) (h : WB w base cb l c) : Calls Try.prog 17 #[.pointer (some ⟨cb, 0, none⟩)] w fun e w' => e = .returned (.tuple #[.int .i64 (kk l 0), .bool true]) ∧ Below w.heap.size w w' := by
  obtain ⟨hb, v, mb, h⟩ := h
  have q0 : w.cell? ⟨cb, 0, none⟩ = some (.pointer (some ⟨hb, 0, none⟩)) := cell_of h.blk
  go_enter Try.func17, Try.ntmps17
  go_wp2_with fail
  refine (min_some base hb v mb l hl w h.hp).mono ?_
  rintro e w1 ⟨rfl, hB⟩
  have hB2 := hB.alloc (o := .cells #[.int .u64 (vv l 0).n, .int .u64 (vv l 0).d, .int .i64 (vv l 0).id] 50) hB.size
  go_wp2_with fail
  go_returns
  exact ⟨rfl, hB2⟩
end Go.Proofs.Ytamifcgljockaaa
