/- Whatever bytes: events that are written as just these: the walk. -/
import Derived.Test.YtbdkbhicjbaffaaLists
namespace Go.Proofs.Ytbdkbhicjbaffaa
open Go.RowKit Go.Kpt WirePure
set_option linter.unusedVariables false

theorem flat_take (l : List Evt) (i : Nat) (h : i < l.length) : (l.take (i + 1)).flatMap encE = (l.take i).flatMap encE ++ encE (l.getD i noev) := by
  rw [take_snoc l i h noev, List.flatMap_append]; simp

set_option maxRecDepth 100000 in
set_option maxHeartbeats 3000000 in
theorem eventReads_any (a : Option Addr) (ca : Nat) (zs : List Nat) (w : World) (hsl : Sl .u8 w (fun x => x < w.heap.size) a (ib zs)) (hcap : zs.length ≤ ca) (hcb : ∀ c ∈ zs, c < 256) :
    Calls Try.prog 5 #[.slice a zs.length ca] w fun e w' => e = .returned (.bool true) ∧ Below w.heap.size w w' := by
  obtain ⟨i0, hi0, iz0, iz1, iz2⟩ := info_parts Try.info5
  go_enter Try.func5, Try.ntmps5
  go_wp2_with fail
  refine (head_any w).mono ?_
  rintro e w1 ⟨rfl, hB1⟩
  have hsl1 := hsl.kept (Kept.of_below (F := fun _ => False) hB1) (fun _ _ h => h)
  clear hsl
  by_cases hm : 300 < zs.length
  · have c1 : (300 : Int) < (zs.length : Int) := by omega
    go_wp2_with fail
    go_ret
    exact ⟨rfl, hB1⟩
  have c1 : ¬ (300 : Int) < (zs.length : Int) := by omega
  obtain ⟨r, hr⟩ : ∃ r, allB zs = r := ⟨_, rfl⟩
  obtain ⟨l, n, E⟩ := r
  obtain ⟨q1, q2, q3, q4, q5⟩ := allE_ok zs.length zs 0 l n E hcb (Nat.le_refl _) (by omega) hr
  have hlen : l.length ≤ 300 := by
    have h1 := encAll_le l
    rw [q3, List.length_take] at h1; omega
  have hall := all_any a ca zs _ w1 hsl1 (fun x hx => Nat.lt_of_lt_of_le hx hB1.size) hcap (by omega) hcb l n E hr
  clear hr
  go_wp2_with fail
  refine hall.mono ?_
  clear hall
  rintro e w2 ⟨v, rfl, hown, hB2⟩
  have hsl2 := hsl1.kept (Kept.of_below (F := fun _ => False) hB2) (fun _ _ h => h)
  have hB3 : Below w.heap.size w w2 := hB1.trans (hB2.mono hB1.size)
  obtain ⟨g, cg, rfl, -, -, hse⟩ := hown.se
  have kk : Kept (fun _ => False) w2 (w2.alloc (.cells #[] 5)) := (Kept.refl _ w2).alloc _
  have hse3 := hse.kept kk (fun _ _ h => h)
  have hsl3 := hsl2.kept kk (fun _ _ h => h)
  have hx0 : OwnI (w2.alloc (.cells #[] 5)) w2.heap.size 5 .u8 (.slice (some ⟨w2.heap.size, 0, none⟩) 0 0) (ib []) := OwnI.empty w2 w2.heap.size 5 .u8 (Nat.le_refl _)
  have hB4 : Below w.heap.size w (w2.alloc (.cells #[] 5)) := hB3.alloc hB3.size _
  have hz3 : w2.heap.size ≤ (w2.alloc (.cells #[] 5)).heap.size := by simp
  have hz2 := hB3.size
  have hz12 := hB2.size
  have hz1 := hB1.size
  obtain ⟨w3, hw3⟩ : ∃ w3, w2.alloc (.cells #[] 5) = w3 := ⟨_, rfl⟩
  rw [hw3] at hse3 hsl3 hx0 hB4 hz3
  obtain ⟨k, hk⟩ : ∃ k, l.length = k := ⟨_, rfl⟩
  rw [hk] at hlen ⊢
  have HR := Lib.hid q1
  have H5 := Lib.hid q5
  have H4 := Lib.hid q4
  have H3 := Lib.hid q3
  clear hown hse hsl1 hsl2 hB1 hB2 hB3 kk q1 q4 q5 q3
  go_wp2_with fail
  go_loopw [6, 26] (fun x y wr => ∃ i : Nat, y = .int .i64 i ∧ i ≤ k ∧ Kept (fun x => w2.heap.size ≤ x) w3 wr ∧ OwnI wr w2.heap.size 5 .u8 x (ib ((l.take i).flatMap encE))) (fun _ y _ => k - (intOf y).toNat)
  case atStart => exact ⟨0, rfl, by omega, Kept.refl _ _, hx0⟩
  case round =>
    obtain ⟨i, rfl, hi, hK, hox⟩ := hrel
    by_cases hin : i < k
    · have hserw := hse3.kept hK (fun x hx h => by omega)
      obtain ⟨bk, off, rfl, hbk, e0, e1, e2, e3, e4, e5, e6, e7, e8, e9⟩ := SE.ten hserw i (by omega)
      have ht := flat_take l i (by omega)
      have hfr := HR.out _ (getD_mem l i (by omega) noev)
      have hlt := encAll_len (l := l.take i) (fun f hf => HR.out f (List.mem_of_mem_take hf))
      rw [List.length_take] at hlt
      generalize l.getD i noev = f at *
      have hE : Ev (wr.alloc (.cells (evc f) 24)) wr.heap.size f := Ev.new _ _
      have hox1 := hox.alloc (.cells (evc f) 24)
      have hK1 := hK.alloc (.cells (evc f) 24)
      have hbase : w2.heap.size ≤ (wr.alloc (.cells (evc f) 24)).heap.size := by have := hK1.size; omega
      have hbw : w2.heap.size ≤ wr.heap.size := by have := hK.size; omega
      obtain ⟨wa, hwa⟩ : ∃ wa, wr.alloc (.cells (evc f) 24) = wa := ⟨_, rfl⟩
      rw [hwa] at hE hox1 hK1 hbase
      simp only [evc] at hwa
      go_upto_region 10 with fail
      clear hwa hox hK e0 e1 e2 e3 e4 e5 e6 e7 e8 e9 hserw hx0
      obtain ⟨e0, e1, e2, e3, e4, e5, e6, e7, e8, e9⟩ := hE.ten
      have hlr := lright_any f wa
      rw [decide_eq_true hfr] at hlr
      simp only [evc] at hlr
      go_wp2_with fail
      refine hlr.mono ?_
      clear hlr
      rintro e w5 ⟨rfl, hB5⟩
      have k5 := Kept.of_below (F := fun _ => False) hB5
      have hE5 := hE.kept k5 (fun h => h)
      have hox5 := hox1.kept k5 (fun _ _ h => h)
      have hK5 := hK1.trans k5 (fun _ _ h => h.elim)
      have hz5 := hB5.size
      clear e0 e1 e2 e3 e4 e5 e6 e7 e8 e9 hE hox1 k5 hB5 hK1
      obtain ⟨e0, e1, e2, e3, e4, e5, e6, e7, e8, e9⟩ := hE5.ten
      have hlb := lbytes_any f hfr w5
      simp only [evc] at hlb
      go_wp2_with fail
      refine hlb.mono ?_
      clear hlb
      rintro e w6 ⟨v6, rfl, hown6, hB6⟩
      have k6 := Kept.of_below (F := fun _ => False) hB6
      have hox6 := hox5.kept k6 (fun _ _ h => h)
      have hK6 := hK5.trans k6 (fun _ _ h => h.elim)
      have hz6 := hB6.size
      obtain ⟨a6, c6, rfl, hc6, -, hsl6⟩ := hown6.sl
      rw [ib_length]
      have hel := encE_len hfr
      have hb6 : w2.heap.size ≤ w6.heap.size := by omega
      clear e0 e1 e2 e3 e4 e5 e6 e7 e8 e9 hE5 hox5 k6 hB6 hK5 hown6
      go_wp2_with (at_builtin; refine wpList_append_ints rfl _ _ _ rfl w2.heap.size 5 .u8 i0 (.int .u8 0) 1 Try.underlying25 hi0 iz0 iz1 iz2 rfl u6 _ rfl hox6 a6 c6 (ib (encE f)) _ (by rw [ib_length]; rfl) hsl6 (by rw [ib_length, ib_length]; unfold maxLen; omega) (by rw [ib_length, ib_length]; omega) hb6 ?_; intro v7 w7 hown7 hgrow hloc)
      have k7 : Kept (fun x => some x = u6.ownBlock) w6 w7 := Kept.of_grown hgrow
      have hK7 : Kept (fun x => w2.heap.size ≤ x) w3 w7 := hK6.trans k7 (fun x _ h => (hox6.lt x h.symm).1)
      have hown7' : OwnI w7 w2.heap.size 5 .u8 v7 (ib ((l.take (i + 1)).flatMap encE)) := by rw [ht, ib_append]; exact hown7
      exact ⟨⟨i + 1, rfl, by omega, hK7, hown7'⟩, by simp [intOf]; omega⟩
    · obtain rfl : i = k := by omega
      rw [List.take_of_length_le (by omega), H3.out] at hox
      have hslr := hsl3.kept hK (fun x hx h => by omega)
      have hB5 : Below w.heap.size w wr := hB4.trans (hK.below hB4.size (fun x hx h => by omega))
      have hox2 := hox
      obtain ⟨ax, cx, rfl, hlx, -, hslx⟩ := hox.sl
      have htl : (zs.take n).length = n := by rw [List.length_take]; omega
      rw [ib_length, htl] at hlx hox2 ⊢
      have hct := conv_any (w := wr.drew) hslx cx
      rw [htl] at hct
      have hslt : Sl .u8 wr (fun x => x < w.heap.size) a (ib (zs.take n)) := by rw [ib_take]; exact Sl.take hslr n
      have hca := conv_any (w := wr.drew) hslt ca
      rw [htl] at hca
      generalize bstr (zs.take n) = S at *
      clear hox hox2 hslt hslx hsl3 hse3 hx0 hB4 hK
      have f1 : (n : Int) ≤ (zs.length : Int) := by omega
      have f2 : (n : Int) ≤ (ca : Int) := by omega
      have f3 : decide ((n : Int) < 0) = false := decide_eq_false (by omega)
      have f4 : decide ((zs.length : Int) < (n : Int)) = false := decide_eq_false (by omega)
      have f5 : decide (zs.length < n) = false := decide_eq_false (by omega)
      have f6 : ¬ (n : Int) < 0 := by omega
      have f7 : ¬ (zs.length : Int) < (n : Int) := by omega
      go_upto_region 14 with fail
      go_big_region
      have hsld : Sl .u8 wr.drew (fun x => x < w.heap.size) a (ib zs) := hslr
      have hBd : Below w.heap.size w wr.drew := hB5.drew
      clear hslr hB5 hct hca f3 f4 f5
      generalize wr.drew = wd at *
      by_cases hE0 : E = 0
      · have h4 := H4.out hE0
        subst hE0
        have g1 : ((n : Int) == (zs.length : Int)) = true := by simp; omega
        clear h4
        go_wp2_with fail
        go_ret
        exact ⟨rfl, hBd⟩
      · obtain ⟨h5, h6, h7⟩ := H5.out hE0
        have g1 : ((E : Int) == 0) = false := by simp; omega
        have g2 : (n : Int) < (zs.length : Int) := by omega
        have g3 : ¬ ca = n := by omega
        obtain ⟨g0, hg0⟩ : ∃ g, noev = g := ⟨_, rfl⟩
        have hsln : Sl .u8 wd (fun x => x < w.heap.size) (Option.map (fun x => x.add n) a) (ib (zs.drop n)) := by rw [ib_drop]; exact Sl.drop hsld n
        have hget := get_any (Option.map (fun x => x.add n) a) (ca - n) (zs.drop n) _ wd hsln (fun x hx => Nat.lt_of_lt_of_le hx hBd.size) (by simp; omega) (by simp; omega) (fun c hc => hcb c (List.mem_of_mem_drop hc)) noev 0 E h6
        rw [List.length_drop, hg0] at hget
        simp only [evc] at hget
        clear h6 hsln hsld H5 H4 H3 HR hcb hE0
        go_wp2_with fail
        refine hget.mono ?_
        clear hget
        rintro e w5 ⟨rfl, hB6⟩
        have hX6 : Ev (w5.alloc (.cells (evc g0) 24)) w5.heap.size g0 := Ev.new _ _
        have hB7 : Below w.heap.size w (w5.alloc (.cells (evc g0) 24)) := (hBd.trans (hB6.mono hBd.size)).alloc (by have := hBd.size; have := hB6.size; omega) _
        obtain ⟨w6, hw6⟩ : ∃ w6, w5.alloc (.cells (evc g0) 24) = w6 := ⟨_, rfl⟩
        rw [hw6] at hX6 hB7
        simp only [evc] at hw6
        go_upto_region 19 with fail
        clear hw6 hB6 hBd
        obtain ⟨b0, b1, b2, b3, b4, b5, b6, b7, b8, b9⟩ := hX6.ten
        have heq1 : ∀ w : World, (binOp .eql 24 (.agg #[.int .i64 (g0 0), .int .i64 (g0 1), .int .i64 (g0 2), .int .i64 (g0 3), .int .i64 (g0 4), .int .i64 (g0 5), .int .i64 (g0 6), .int .i64 (g0 7), .int .i64 (g0 8), .int .i64 (g0 9)]) (.agg #[.int .i64 0, .int .i64 0, .int .i64 0, .int .i64 0, .int .i64 0, .int .i64 0, .int .i64 0, .int .i64 0, .int .i64 0, .int .i64 0])).run Try.prog w = .ok (.bool true) w := fun w => by
          have := eql_ev g0 noev w
          rw [show decide (g0 = noev) = true by rw [hg0]; simp] at this
          exact this
        have hgd := guard_ev
        clear hg0 hX6
        rcases h7 with rfl | rfl
        · go_wp2_with fail
          go_ret
          exact ⟨rfl, hB7⟩
        · go_wp2_with fail
          go_ret
          exact ⟨rfl, hB7⟩

theorem eventReads_walk (a0 : Option Addr) (cap0 : Nat) (z0 : List Int) (w : World) (w0 : IsInts .u8 w a0 z0) (y0 : z0.length ≤ cap0) :
    Calls Try.prog 5 #[.slice a0 z0.length cap0] w fun e w' => e = .returned (.bool true) ∧ Below w.heap.size w w' := by
  obtain ⟨zs, rfl, hb, hsl⟩ := isBytes w0
  rw [ib_length] at y0 ⊢
  exact eventReads_any a0 cap0 zs w hsl y0 hb
end Go.Proofs.Ytbdkbhicjbaffaa
