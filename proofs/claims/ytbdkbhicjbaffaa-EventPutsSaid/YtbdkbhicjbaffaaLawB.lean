/- The law's own: an event's bytes; the document's example. -/
import Derived.Test.YtbdkbhicjbaffaaLawR2
import Derived.Test.YtbdkbhicjbaffaaGet2
import Derived.Deep.CutRange
namespace Go.Proofs.Ytbdkbhicjbaffaa
open Go.RowKit Go.Kpt WirePure
set_option linter.unusedVariables false

set_option maxRecDepth 100000 in
set_option maxHeartbeats 1000000 in
theorem lbytes_any (f : Evt) (hr : right f) (w : World) : Calls Try.prog 13 #[.agg (evc f)] w fun e w' => ∃ v, e = .returned v ∧ OwnI w' w.heap.size 5 .u8 v (ib (encE f)) ∧ Below w.heap.size w w' := by
  obtain ⟨i0, hi0, hz0, hz1, hz2⟩ := info_parts Try.info5
  have hE := Ev.new w f
  have hB : Below w.heap.size w (w.alloc (.cells (evc f) 24)) := by go_grown
  have hz : w.heap.size < (w.alloc (.cells (evc f) 24)).heap.size := by simp
  obtain ⟨w1, hw1⟩ : ∃ w1, w.alloc (.cells (evc f) 24) = w1 := ⟨_, rfl⟩
  rw [hw1] at hE hB hz
  obtain ⟨k, hk⟩ : ∃ k : Nat, (f 0).toNat = k := ⟨_, rfl⟩
  have h09 := hr.1
  have hfk : f 0 = (k : Int) := by omega
  have hwk : IntKind.u64.wrap (k : Int) = (k : Int) := IntWalk.u64_in _ ⟨by omega, by omega⟩
  have hEE : Hid (encE f = enc k ++ encP f (parts (f 0))) := Lib.hid (by unfold encE; rw [hk]; rfl)
  have hkk : kOK (f 0) := h09
  have hkb : kB (f 0) = true := decide_eq_true h09
  have hten := enc_len_ten (n := k) (by omega)
  have c0 : w1.cell? ⟨w.heap.size, 0, none⟩ = some (.int .i64 (f 0)) := hE.cell 0
  rw [hfk] at c0
  have hby := bytes_any k (by omega) w1
  have hpp := hr.2.1
  have hl7 := encP_len f _ hpp
  have hn6 := parts_len (f 0)
  have hPP := Lib.hid hpp
  clear h09 hr hpp
  go_enter Try.func13, Try.ntmps13
  go_wp2_with fail
  refine hby.mono ?_
  clear hby hw1 c0
  rintro e w2 ⟨v, rfl, hown, hB2⟩
  have hown_l2 : ∀ g, v.ownBlock = some g → g < w2.heap.size := fun g h => (hown.lt g h).2
  have hE2 : Ev w2 w.heap.size f := hE.kept (Kept.of_below (F := fun _ => False) hB2) (fun h => h)
  have hB3 : Below w.heap.size w w2 := hB.trans (hB2.mono (by omega))
  have hown : OwnI w2 w.heap.size 5 .u8 v (ib (enc k)) := hown.mono (by omega)
  have hz2' := hB2.size
  obtain ⟨a0, a1, a2, a3, a4, a5, a6, a7, a8, a9⟩ := hE2.ten
  have hnum := numbers_any f w2
  rw [hkb, nums_ok hkk] at hnum
  simp only [evc] at hnum
  rw [hfk] at a0 hnum
  go_wp2_with fail
  refine hnum.mono ?_
  clear hnum
  rintro e w3 ⟨v3, rfl, hown3, hB4⟩
  have hB5 : Below w.heap.size w w3 := hB3.trans (hB4.mono (by omega))
  have hown : OwnI w3 w.heap.size 5 .u8 v (ib (enc k)) := hown.kept (Kept.of_below (F := fun _ => False) hB4) (fun _ _ h => h)
  obtain ⟨a, cap, rfl, hle, hmx, hsl⟩ := hown3.sl
  rw [← hfk] at hle hsl hown3 ⊢
  rw [List.length_map] at hle ⊢
  generalize parts (f 0) = ps at *
  obtain ⟨n, hn⟩ : ∃ n, ps.length = n := ⟨_, rfl⟩
  rw [hn] at hn6 ⊢
  have hz3 := hB4.size
  clear a0 a1 a2 a3 a4 a5 a6 a7 a8 a9 hE hE2 hB hB2 hB3 hB4 hown3 hwk hkb
  go_wp2_with fail
  go_loopw [3, 19] (fun x y wr => ∃ i : Nat, y = .int .i64 i ∧ i ≤ n ∧ Sl .i64 wr (fun x => w2.heap.size ≤ x ∧ x < w3.heap.size) a (ps.map f) ∧ OwnI wr w.heap.size 5 .u8 x (ib (enc k ++ encP f (ps.take i))) ∧ Below w.heap.size w wr ∧ (∀ g, x.ownBlock = some g → g < w2.heap.size ∨ w3.heap.size ≤ g) ∧ w3.heap.size ≤ wr.heap.size) (fun _ y _ => n - (intOf y).toNat)
  case atStart => exact ⟨0, rfl, by omega, hsl, by simpa [encP] using hown, hB5, fun g h => .inl (hown_l2 g h), Nat.le_refl _⟩
  case round =>
    clear hsl hown hB5
    obtain ⟨i, rfl, hi, hsl, hox, hBr, hap, hzr⟩ := hrel
    by_cases hin : i < n
    · obtain ⟨b, off, rfl, hb, hc⟩ := hsl i (by rw [List.length_map]; omega)
      rw [map_getD ps f i (by omega)] at hc
      have hj : ps.getD i 0 ∈ ps := getD_mem ps i (by omega) 0
      have ht := take_snoc ps i (by omega) 0
      have hPj := hPP.out _ hj
      have hlt := encP_len f (ps.take i) (fun j hj => hPP.out j (List.mem_of_mem_take hj))
      rw [List.length_take] at hlt
      generalize ps.getD i 0 = j at *
      obtain ⟨m, hm⟩ : ∃ m : Nat, (f j).toNat = m := ⟨_, rfl⟩
      have hfm : f j = (m : Int) := by omega
      have hwm : IntKind.u64.wrap (m : Int) = (m : Int) := IntWalk.u64_in _ ⟨by omega, by omega⟩
      rw [hfm] at hc
      have hE5 : Hid (encP f (ps.take (i + 1)) = encP f (ps.take i) ++ enc m) := Lib.hid (by rw [ht, encP_snoc, hm])
      obtain ⟨xs, hxs⟩ : ∃ xs, enc k ++ encP f (ps.take i) = xs := ⟨_, rfl⟩
      have hlx : xs.length ≤ 100 := by rw [← hxs]; simp; omega
      rw [hxs] at hox
      have hby := bytes_any m (by omega) wr
      have hmten := enc_len_ten (n := m) (by omega)
      have hXS := Lib.hid hxs
      have hbase := hBr.size
      clear hPj hxs
      go_wp2_with fail
      refine hby.mono ?_
      clear hby
      rintro e w5 ⟨v5, rfl, hown5, hB8⟩
      have k8 := Kept.of_below (F := fun _ => False) hB8
      have hox5 := hox.kept k8 (fun _ _ h => h)
      have hsl5 := hsl.kept k8 (fun _ _ h => h)
      have hB9 : Below w.heap.size w w5 := hBr.trans (hB8.mono (by omega))
      have hbase5 := hB9.size
      obtain ⟨a5, cap5, rfl, hle5, hmx5, hsl6⟩ := hown5.sl
      have hz5 : w3.heap.size ≤ w5.heap.size := by have := k8.size; omega
      clear hown5 hox hsl hBr hB8 k8
      rw [ib_length] at hle5
      rw [ib_length]
      go_wp2_with (at_builtin; refine wpList_append_ints rfl _ _ _ rfl w.heap.size 5 .u8 i0 (.int .u8 0) 1 Try.underlying25 hi0 hz0 hz1 hz2 rfl u3 _ rfl hox5 a5 cap5 (ib (enc m)) _ (by rw [ib_length]; rfl) hsl6 (by rw [ib_length, ib_length]; unfold maxLen; omega) (by rw [ib_length, ib_length]; omega) hbase5 ?_; intro v6 w6 hown6 hgrow hloc)
      have k9 := Kept.of_grown hgrow
      have hB10 : Below w.heap.size w w6 := hB9.trans (k9.below hbase5 (fun x hx h => by have := hox5.lt x h.symm; omega))
      have hsl6' : Sl .i64 w6 (fun x => w2.heap.size ≤ x ∧ x < w3.heap.size) (some ⟨b, off, none⟩) (ps.map f) := hsl5.kept k9 (fun x hx h => by have := hap x h.symm; omega)
      have hap6 : ∀ g, v6.ownBlock = some g → g < w2.heap.size ∨ w3.heap.size ≤ g := fun g h => by
        rcases hloc with h1 | h1
        · exact hap g (h1.symm.trans h)
        · rw [h1] at h; cases h; right; omega
      have hz6 : w3.heap.size ≤ w6.heap.size := by have := k9.size; omega
      have hown6' : OwnI w6 w.heap.size 5 .u8 v6 (ib (enc k ++ encP f (ps.take (i + 1)))) := by
        rw [hE5.out, ← List.append_assoc, hXS.out, ib_append]
        exact hown6
      exact ⟨⟨i + 1, rfl, by omega, hsl6', hown6', hB10, hap6, hz6⟩, by simp [intOf]; omega⟩
    · obtain rfl : i = n := by omega
      rw [List.take_of_length_le (by omega), ← hEE.out] at hox
      go_wp2_with fail
      go_ret
      exact ⟨_, rfl, hox, hBr⟩

def fh : Evt := upd (ev0 6) 1 5
theorem fh_right : right fh := by decide
theorem fh_enc : encE fh = [6, 5] := by
  have h : encE fh = enc 6 ++ (enc 5 ++ []) := rfl
  rw [h, enc_small (by omega), enc_small (by omega)]
  rfl

set_option maxRecDepth 100000 in
set_option maxHeartbeats 1000000 in
theorem head_any (w : World) : Calls Try.prog 8 #[] w fun e w' => e = .returned (.bool true) ∧ Below w.heap.size w w' := by
  have hput := putE_any none 0 [] fh (fun _ => False) w (fun i hi => by simp [ib] at hi) (by simp) fh_right (fun _ h => h.elim)
  rw [List.nil_append, fh_enc] at hput
  have hput' : Calls Try.prog 10 #[.slice none 0 0, .agg #[.int .i64 6, .int .i64 5, .int .i64 0, .int .i64 0, .int .i64 0, .int .i64 0, .int .i64 0, .int .i64 0, .int .i64 0, .int .i64 0]] w _ := hput
  clear hput
  go_enter Try.func8, Try.ntmps8
  go_wp2_with fail
  refine hput'.mono ?_
  clear hput'
  rintro e w1 ⟨v, rfl, hown, hB⟩
  rcases hown.shape with ⟨_, h⟩ | ⟨g, cap, rfl, hb, hg, hl, hm, hc⟩
  · simp [ib] at h
  · have s0 : w1.cell? ⟨g, 0, none⟩ = some (.int .u8 6) := hc 0 (by simp [ib])
    have s1 : w1.cell? ⟨g, 1, none⟩ = some (.int .u8 5) := hc 1 (by simp [ib])
    rw [ib_length] at hl ⊢
    have hsl : Sl .u8 w1 (fun x => x = g) (some ⟨g, 0, none⟩) (ib [6, 5]) := fun i hi => ⟨g, 0, rfl, rfl, by rw [Nat.zero_add]; exact hc i hi⟩
    have hge := getE_enc fh_right []
    rw [List.append_nil, fh_enc] at hge
    have hget := get_any (some ⟨g, 0, none⟩) cap [6, 5] (fun x => x = g) w1 hsl (fun x hx => by subst hx; exact hg) hl (by simp) (by simp) fh 2 0 hge
    have heq := eql_ev fh fh
    rw [show decide (fh = fh) = true from by simp] at heq
    have hgd := guard_ev
    have hget' : Calls Try.prog 11 #[.slice (some ⟨g, 0, none⟩) 2 cap] w1 fun x w' => x = .returned (.tuple #[.agg #[.int .i64 6, .int .i64 5, .int .i64 0, .int .i64 0, .int .i64 0, .int .i64 0, .int .i64 0, .int .i64 0, .int .i64 0, .int .i64 0], .int .i64 2, .int .i64 0]) ∧ Below w1.heap.size w1 w' := hget
    have heq' : ∀ w : World, (binOp .eql 24 (.agg #[.int .i64 6, .int .i64 5, .int .i64 0, .int .i64 0, .int .i64 0, .int .i64 0, .int .i64 0, .int .i64 0, .int .i64 0, .int .i64 0]) (.agg #[.int .i64 6, .int .i64 5, .int .i64 0, .int .i64 0, .int .i64 0, .int .i64 0, .int .i64 0, .int .i64 0, .int .i64 0, .int .i64 0])).run Try.prog w = .ok (.bool true) w := heq
    clear hget heq hge hsl hown
    go_wp2_with fail
    refine hget'.mono ?_
    clear hget'
    rintro e w2 ⟨rfl, hB2⟩
    have hB3 : Below w.heap.size w w2 := hB.trans (hB2.mono hB.size)
    have hB4 := hB3.alloc (o := .cells #[.int .i64 6, .int .i64 5, .int .i64 0, .int .i64 0, .int .i64 0, .int .i64 0, .int .i64 0, .int .i64 0, .int .i64 0, .int .i64 0] 24) hB3.size
    go_wp2_with fail
    go_ret
    exact ⟨rfl, hB4⟩
end Go.Proofs.Ytbdkbhicjbaffaa
