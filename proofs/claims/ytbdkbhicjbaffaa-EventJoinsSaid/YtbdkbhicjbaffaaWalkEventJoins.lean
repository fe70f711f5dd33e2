/- The events of bytes side by side: the walk. -/
import Derived.Test.YtbdkbhicjbaffaaLists
namespace Go.Proofs.Ytbdkbhicjbaffaa
open Go.RowKit Go.Kpt WirePure
set_option linter.unusedVariables false

theorem encR_take (l : List Evt) (i : Nat) (h : i < l.length) : encR (l.take (i + 1)) = encR (l.take i) ++ enc1 (l.getD i noev) := by
  rw [take_snoc l i h noev, encR_snoc]

set_option maxRecDepth 100000 in
set_option maxHeartbeats 3000000 in
theorem eventJoins_any (a b : Option Addr) (ca cb : Nat) (la lb : List Evt) (w : World) (ha : SE w (fun x => x < w.heap.size) a la) (hb : SE w (fun x => x < w.heap.size) b lb) :
    Calls Try.prog 7 #[.slice a la.length ca, .slice b lb.length cb] w fun e w' => e = .returned (.bool true) ∧ Below w.heap.size w w' := by
  obtain ⟨i0, hi0, iz0, iz1, iz2⟩ := info_parts Try.info5
  go_enter Try.func7, Try.ntmps7
  go_wp2_with fail
  refine (head_any w).mono ?_
  rintro e w1 ⟨rfl, hB1⟩
  have k1 := Kept.of_below (F := fun _ => False) hB1
  have ha1 := ha.kept k1 (fun _ _ h => h)
  have hb1 := hb.kept k1 (fun _ _ h => h)
  clear ha hb k1
  by_cases hla : 40 < la.length
  · have c1 : (40 : Int) < (la.length : Int) := by omega
    go_wp2_with fail
    go_ret
    exact ⟨rfl, hB1⟩
  by_cases hlb : 40 < lb.length
  · have c1 : ¬ (40 : Int) < (la.length : Int) := by omega
    have c2 : (40 : Int) < (lb.length : Int) := by omega
    go_wp2_with fail
    go_ret
    exact ⟨rfl, hB1⟩
  have c1 : ¬ (40 : Int) < (la.length : Int) := by omega
  have c2 : ¬ (40 : Int) < (lb.length : Int) := by omega
  have hx0 : OwnI ((w1.alloc (.cells #[] 5)).alloc (.cells #[] 5)) w.heap.size 5 .u8 (.slice (some ⟨w1.heap.size, 0, none⟩) 0 0) (ib []) := (OwnI.empty w1 w.heap.size 5 .u8 hB1.size).alloc _
  have hy0 : OwnI ((w1.alloc (.cells #[] 5)).alloc (.cells #[] 5)) w.heap.size 5 .u8 (.slice (some ⟨(w1.alloc (.cells #[] 5)).heap.size, 0, none⟩) 0 0) (ib []) := OwnI.empty (w1.alloc (.cells #[] 5)) w.heap.size 5 .u8 (by have := hB1.size; simp; omega)
  have kk : Kept (fun _ => False) w1 ((w1.alloc (.cells #[] 5)).alloc (.cells #[] 5)) := ((Kept.refl _ w1).alloc _).alloc _
  have ha2 := ha1.kept kk (fun _ _ h => h)
  have hb2 := hb1.kept kk (fun _ _ h => h)
  have hB2 : Below w.heap.size w ((w1.alloc (.cells #[] 5)).alloc (.cells #[] 5)) := (hB1.alloc hB1.size _).alloc (by have := hB1.size; simp; omega) _
  rw [World.size_alloc] at hy0
  obtain ⟨w2, hw2⟩ : ∃ w2, (w1.alloc (.cells #[] 5)).alloc (.cells #[] 5) = w2 := ⟨_, rfl⟩
  rw [hw2] at hx0 hy0 ha2 hb2 hB2
  clear ha1 hb1 kk hB1
  obtain ⟨n, hn⟩ : ∃ n, la.length = n := ⟨_, rfl⟩
  obtain ⟨m, hm⟩ : ∃ m, lb.length = m := ⟨_, rfl⟩
  rw [hn] at hla c1 ⊢
  rw [hm] at hlb c2 ⊢
  go_wp2_with fail
  go_loopw [5, 36] (fun x y wr => ∃ i : Nat, y = .int .i64 i ∧ i ≤ n ∧ Kept (fun _ => False) w2 wr ∧ OwnI wr w.heap.size 5 .u8 x (ib (encR (la.take i)))) (fun _ y _ => n - (intOf y).toNat)
  case atStart => exact ⟨0, rfl, by omega, Kept.refl _ _, hx0⟩
  case round =>
    obtain ⟨i, rfl, hi, hK, hox⟩ := hrel
    by_cases hin : i < n
    · have hse := ha2.kept hK (fun _ _ h => h)
      obtain ⟨bk, off, rfl, hbk, e0, e1, e2, e3, e4, e5, e6, e7, e8, e9⟩ := (SE.ten hse) i (by omega)
      have ht := encR_take la i (by omega)
      have hlen := encR_len (la.take i)
      rw [List.length_take] at hlen
      generalize la.getD i noev = f at *
      have hE : Ev (wr.alloc (.cells (evc f) 24)) wr.heap.size f := Ev.new _ _
      have hox1 := hox.alloc (.cells (evc f) 24)
      have hK1 := hK.alloc (.cells (evc f) 24)
      have hbase : w.heap.size ≤ (wr.alloc (.cells (evc f) 24)).heap.size := by have := hK1.size; have := hB2.size; omega
      obtain ⟨wa, hwa⟩ : ∃ wa, wr.alloc (.cells (evc f) 24) = wa := ⟨_, rfl⟩
      rw [hwa] at hE hox1 hK1 hbase
      simp only [evc] at hwa
      go_upto_region 10 with fail
      clear hwa hox hK e0 e1 e2 e3 e4 e5 e6 e7 e8 e9 hse
      obtain ⟨e0, e1, e2, e3, e4, e5, e6, e7, e8, e9⟩ := hE.ten
      obtain ⟨ax, cx, rfl, hlx, -, -⟩ := hox1.sl
      rw [ib_length] at hox1 hlx ⊢
      have hput := putE_both w.heap.size ax cx (encR (la.take i)) f wa hox1 hbase (by omega)
      simp only [evc] at hput
      go_wp2_with fail
      refine hput.mono ?_
      clear hput
      rintro e w5 ⟨v5, rfl, hown5, hB5⟩
      rw [← ht] at hown5
      go_wp2_with fail
      go_roundw
      case rel => exact ⟨i + 1, rfl, by omega, hK1.trans (Kept.of_below hB5) (fun _ _ h => h), hown5⟩
      case measure => simp [intOf]; omega
    · obtain rfl : i = n := by omega
      rw [List.take_of_length_le (by omega)] at hox
      have hb3 := hb2.kept hK (fun _ _ h => h)
      have hy1 := hy0.kept hK (fun _ _ h => h)
      have hB3 : Below w.heap.size w wr := hB2.trans (hK.below hB2.size (fun _ _ h => h))
      obtain ⟨ax, cx, rfl, hlx, -, -⟩ := hox.sl
      rw [ib_length] at hox hlx ⊢
      have hlX := encR_len la
      have hbX := encR_byte la
      have HR1 : Hid ((rl la).length ≤ 16384) := Lib.hid (by have := rl_len la; omega)
      have HR2 : Hid ((rl lb).length ≤ 16384) := Lib.hid (by have := rl_len lb; omega)
      have haX := all_encR la (by omega)
      have haX2 := all_encR2 la lb (by omega)
      generalize rl la = ra at *
      generalize encR la = X at *
      clear hx0 hy0 ha2 hb2 hB2 hK hw2
      rename World => w3
      go_wp2_with fail
      go_loopw [6, 46] (fun x y wr => ∃ i : Nat, y = .int .i64 i ∧ i ≤ m ∧ Kept (fun _ => False) w3 wr ∧ OwnI wr w.heap.size 5 .u8 x (ib (encR (lb.take i)))) (fun _ y _ => m - (intOf y).toNat)
      case atStart => exact ⟨0, rfl, by omega, Kept.refl _ _, hy1⟩
      case round =>
        obtain ⟨i, rfl, hi, hK, hox2⟩ := hrel
        clear hy1
        by_cases hin : i < m
        · have hse := hb3.kept hK (fun _ _ h => h)
          obtain ⟨bk, off, rfl, hbk, e0, e1, e2, e3, e4, e5, e6, e7, e8, e9⟩ := (SE.ten hse) i (by omega)
          have ht := encR_take lb i (by omega)
          have hlen := encR_len (lb.take i)
          rw [List.length_take] at hlen
          generalize lb.getD i noev = f at *
          have hE : Ev (wr.alloc (.cells (evc f) 24)) wr.heap.size f := Ev.new _ _
          have hoz1 := hox2.alloc (.cells (evc f) 24)
          have hK1 := hK.alloc (.cells (evc f) 24)
          have hbase : w.heap.size ≤ (wr.alloc (.cells (evc f) 24)).heap.size := by have := hK1.size; have := hB3.size; omega
          obtain ⟨wa, hwa⟩ : ∃ wa, wr.alloc (.cells (evc f) 24) = wa := ⟨_, rfl⟩
          rw [hwa] at hE hoz1 hK1 hbase
          simp only [evc] at hwa
          go_upto_region 15 with fail
          clear hwa hox2 hK e0 e1 e2 e3 e4 e5 e6 e7 e8 e9 hse
          obtain ⟨e0, e1, e2, e3, e4, e5, e6, e7, e8, e9⟩ := hE.ten
          obtain ⟨ax, cx, rfl, hlx, -, -⟩ := hoz1.sl
          rw [ib_length] at hoz1 hlx ⊢
          have hput := putE_both w.heap.size ax cx (encR (lb.take i)) f wa hoz1 hbase (by omega)
          simp only [evc] at hput
          go_wp2_with fail
          refine hput.mono ?_
          clear hput
          rintro e w5 ⟨v5, rfl, hown5, hB5⟩
          rw [← ht] at hown5
          go_wp2_with fail
          go_roundw
          case rel => exact ⟨i + 1, rfl, by omega, hK1.trans (Kept.of_below hB5) (fun _ _ h => h), hown5⟩
          case measure => simp [intOf]; omega
        · obtain rfl : i = m := by omega
          rw [List.take_of_length_le (by omega)] at hox2
          have hoxw := hox.kept hK (fun _ _ h => h)
          have hB4 : Below w.heap.size w wr := hB3.trans (hK.below hB3.size (fun _ _ h => h))
          obtain ⟨ay, cy, rfl, hly, -, -⟩ := hox2.sl
          rw [ib_length] at hox2 hly ⊢
          have hlY := encR_len lb
          have hbY := encR_byte lb
          have haY := all_encR lb (by omega)
          generalize rl lb = rb at *
          generalize encR lb = Y at *
          clear hox hb3 hB3 hK
          rename World => w4
          obtain ⟨-, hlx, hslx⟩ := (OwnI.here hoxw)
          obtain ⟨-, hly, hsly⟩ := (OwnI.here hox2)
          rw [ib_length] at hlx hly
          have hc1 := all_any ax cx X _ w4 hslx (fun x hx => hx.2) hlx (by omega) hbX ra X.length 0 haX
          go_wp2_with fail
          refine hc1.mono ?_
          clear hc1
          rintro e w5 ⟨vp, rfl, hp5, hB5⟩
          have k5 := Kept.of_below (F := fun _ => False) hB5
          have hslx5 := hslx.kept k5 (fun _ _ h => h)
          have hsly5 := hsly.kept k5 (fun _ _ h => h)
          have hB6 : Below w.heap.size w w5 := hB4.trans (hB5.mono hB4.size)
          have hz5 := hB5.size
          obtain ⟨pa, pc, rfl, -, -, hse5⟩ := hp5.se
          have hc2 := all_any ay cy Y _ w5 hsly5 (fun x hx => by have := hx.2; omega) hly (by omega) hbY rb Y.length 0 haY
          clear hslx hsly hp5 k5 hB4 hB5 hoxw hox2
          go_wp2_with fail
          refine hc2.mono ?_
          clear hc2
          rintro e w6 ⟨vq, rfl, hq6, hB7⟩
          have k6 := Kept.of_below (F := fun _ => False) hB7
          have hz6 := hB7.size
          obtain ⟨qa, qc, rfl, -, -, hsq6⟩ := hq6.se
          have kk : Kept (fun _ => False) w6 (w6.alloc (.cells #[] 5)) := (Kept.refl _ w6).alloc _
          have hslx7 := (hslx5.kept k6 (fun _ _ h => h)).kept kk (fun _ _ h => h)
          have hsly7 := (hsly5.kept k6 (fun _ _ h => h)).kept kk (fun _ _ h => h)
          have hse7 := (hse5.kept k6 (fun _ _ h => h)).kept kk (fun _ _ h => h)
          have hsq7 := hsq6.kept kk (fun _ _ h => h)
          have hB8 : Below w.heap.size w (w6.alloc (.cells #[] 5)) := (hB6.trans (hB7.mono hB6.size)).alloc (by have := hB6.size; omega) _
          have hown0 : OwnI (w6.alloc (.cells #[] 5)) w6.heap.size 5 .u8 (.slice (some ⟨w6.heap.size, 0, none⟩) 0 0) (ib []) := OwnI.empty w6 w6.heap.size 5 .u8 (Nat.le_refl _)
          have hz66 : w.heap.size ≤ w6.heap.size := by have := hB6.size; omega
          have hz7 : w6.heap.size ≤ (w6.alloc (.cells #[] 5)).heap.size := by simp
          obtain ⟨w7, hw7⟩ : ∃ w7, w6.alloc (.cells #[] 5) = w7 := ⟨_, rfl⟩
          rw [hw7] at hslx7 hsly7 hse7 hsq7 hB8 hown0 hz7
          have hob : ∀ x, some x = Value.ownBlock (.slice (some ⟨w6.heap.size, 0, none⟩) 0 0) → x = w6.heap.size := fun x h => by injection h
          have HX := Lib.hid hbX
          have HY := Lib.hid hbY
          have HA := Lib.hid haX2
          clear hslx5 hsly5 hse5 hsq6 hq6 hB6 hB7 kk k6 hbX hbY haX haY haX2
          go_wp2_with (first
            | (at_builtin; go_loud (
               refine wpList_append_ints rfl _ _ _ rfl w6.heap.size 5 .u8 i0 (.int .u8 0) 1 Try.underlying25 hi0 iz0 iz1 iz2 rfl (.slice (some ⟨w6.heap.size, 0, none⟩) 0 0) _ rfl hown0 ax cx (ib X) _ (by rw [ib_length]; rfl) hslx7 (by rw [ib_length, ib_length]; unfold maxLen; simp; omega) (by rw [ib_length, ib_length]; simp; omega) hz7 ?_
               intro v8 w8 hown8 hgrow8 hloc8
               have k9 : Kept (fun x => some x = Value.ownBlock (.slice (some ⟨w6.heap.size, 0, none⟩) 0 0)) w7 w8 := Kept.of_grown hgrow8
               have hsly8 := hsly7.kept k9 (fun x hx h => by have := hob _ h; have := hx.2; omega)
               have hse8 := hse7.kept k9 (fun x hx h => by have := hob _ h; have := hx.2; omega)
               have hsq8 := hsq7.kept k9 (fun x hx h => by have := hob _ h; have := hx.2; omega)
               have hB9 : Below w.heap.size w w8 := hB8.trans (k9.below hB8.size (fun x hx h => by have := hob _ h; omega))
               have hz8 : w6.heap.size ≤ w8.heap.size := by have := k9.size; omega
               have hown8' : OwnI w8 w6.heap.size 5 .u8 v8 (ib X) := hown8
               clear hown0 hslx7 hsly7 hse7 hsq7 hB8 hgrow8 hloc8 hown8))
            | (at_builtin; refine wpList_append_ints rfl _ _ _ rfl w6.heap.size 5 .u8 i0 (.int .u8 0) 1 Try.underlying25 hi0 iz0 iz1 iz2 rfl v8 _ rfl hown8' ay cy (ib Y) _ (by rw [ib_length]; rfl) hsly8 (by rw [ib_length, ib_length]; unfold maxLen; omega) (by rw [ib_length, ib_length]; omega) hz8 ?_
               intro v9 w9 hown9 hgrow9 hloc9
               have k10 : Kept (fun x => some x = v8.ownBlock) w8 w9 := Kept.of_grown hgrow9
               have hlt8 := hown8'.lt
               have hse9 := hse8.kept k10 (fun x hx h => by have := hlt8 _ h.symm; have := hx.2; omega)
               have hsq9 := hsq8.kept k10 (fun x hx h => by have := hlt8 _ h.symm; have := hx.2; omega)
               have hB10 : Below w.heap.size w w9 := hB9.trans (k10.below hB9.size (fun x hx h => by have := hlt8 _ h.symm; omega))
               have hown9' : OwnI w9 w6.heap.size 5 .u8 v9 (ib (X ++ Y)) := by rw [ib_append]; exact hown9
               obtain ⟨p9, c9, rfl, hle9, -, hsl9⟩ := hown9'.sl
               rw [ib_length] at hle9
               have hc3 := all_any p9 c9 (X ++ Y) _ w9 hsl9 (fun x hx => hx.2) hle9 (by rw [List.length_append]; omega) (fun c hc => by
                 rcases List.mem_append.1 hc with hc | hc
                 · exact HX.out c hc
                 · exact HY.out c hc) (ra ++ rb) (X.length + Y.length) 0 HA.out
               rw [List.length_append] at hc3
               rw [ib_length, List.length_append]
               clear hown8' hown9' hown9 hse8 hsq8 hB9 hgrow9 hloc9 hlt8 hsly8 hsl9))
          refine hc3.mono ?_
          clear hc3
          rintro e w10 ⟨vr, rfl, hr10, hB11⟩
          have k11 := Kept.of_below (F := fun _ => False) hB11
          have hse := hse9.kept k11 (fun _ _ h => h)
          have hsq := hsq9.kept k11 (fun _ _ h => h)
          have hB : Below w.heap.size w w10 := hB10.trans (hB11.mono hB10.size)
          obtain ⟨ra', rc, rfl, -, -, hsr⟩ := hr10.se
          obtain ⟨s, hs⟩ : ∃ s, X.length + Y.length = s := ⟨_, rfl⟩
          rw [hs] at ⊢
          have hsi : (X.length : Int) + (Y.length : Int) = (s : Int) := by omega
          have hra : ra.length ≤ 16384 := HR1.out
          have hrb : rb.length ≤ 16384 := HR2.out
          have hap : (ra ++ rb).length = ra.length + rb.length := List.length_append
          have HG : Hid (∀ i, (i < ra.length → (ra ++ rb).getD i noev = ra.getD i noev) ∧ (¬ i < ra.length → (ra ++ rb).getD i noev = rb.getD (i - ra.length) noev)) := Lib.hid (fun i => ⟨fun h => by simp [List.getD_eq_getElem?_getD, List.getElem?_append_left h], fun h => by simp [List.getD_eq_getElem?_getD, List.getElem?_append_right (show ra.length ≤ i by omega)]⟩)
          generalize ra ++ rb = rr at *
          obtain ⟨n1, hn1⟩ : ∃ n1, ra.length = n1 := ⟨_, rfl⟩
          obtain ⟨n2, hn2⟩ : ∃ n2, rb.length = n2 := ⟨_, rfl⟩
          obtain ⟨n3, hn3⟩ : ∃ n3, rr.length = n3 := ⟨_, rfl⟩
          rw [hn1] at hra hap ⊢
          rw [hn2] at hrb hap ⊢
          rw [hn3] at hap ⊢
          have hs3 : (n1 : Int) + (n2 : Int) = (n3 : Int) := by omega
          have hg1 : IntKind.i64.wrap (s : Int) = (s : Int) := IntWalk.i64_in _ ⟨by omega, by omega⟩
          have hg2 : IntKind.i64.wrap (n3 : Int) = (n3 : Int) := IntWalk.i64_in _ ⟨by omega, by omega⟩
          have HAP := Lib.hid hap
          have HS := Lib.hid hs
          clear hse9 hsq9 hB10 hB11 hr10 k11 HX HY HA hap hs
          go_wp2_with fail
          clear hs3 hsi hg1 hg2 HS
          go_loopw [117] (fun x wr => ∃ i : Nat, x = .int .i64 i ∧ i ≤ n3 ∧ Kept (fun _ => False) w10 wr) (fun x _ => n3 - (intOf x).toNat)
          case atStart => exact ⟨0, rfl, by omega, Kept.refl _ _⟩
          case round =>
            obtain ⟨i, rfl, hi, hK⟩ := hrel
            by_cases hin : i < n3
            · have hserw := hsr.kept hK (fun _ _ h => h)
              obtain ⟨bk, off, rfl, hbk, e0, e1, e2, e3, e4, e5, e6, e7, e8, e9⟩ := SE.ten hserw i (by omega)
              have hcase : (i < n1 ∧ rr.getD i noev = ra.getD i noev) ∨ (¬ i < n1 ∧ i - n1 < n2 ∧ rr.getD i noev = rb.getD (i - n1) noev) := by
                have h1 := HG.out i
                have h2 := HAP.out
                rw [hn1] at h1
                by_cases h : i < n1
                · exact .inl ⟨h, h1.1 h⟩
                · exact .inr ⟨h, by omega, h1.2 h⟩
              generalize rr.getD i noev = f at *
              have hE : Ev (wr.alloc (.cells (evc f) 24)) wr.heap.size f := Ev.new _ _
              have hK1 := hK.alloc (.cells (evc f) 24)
              obtain ⟨wa, hwa⟩ : ∃ wa, wr.alloc (.cells (evc f) 24) = wa := ⟨_, rfl⟩
              rw [hwa] at hE hK1
              simp only [evc] at hwa
              go_upto_region 25 with fail
              clear hwa hK e0 e1 e2 e3 e4 e5 e6 e7 e8 e9 hserw
              obtain ⟨e0, e1, e2, e3, e4, e5, e6, e7, e8, e9⟩ := hE.ten
              have hneq := neq_ev f f
              rw [show (!decide (f = f)) = false by simp] at hneq
              simp only [evc] at hneq
              have hgd := guard_ev
              rcases hcase with ⟨h1, h2⟩ | ⟨h1, h2, h3⟩
              · obtain ⟨bp, offp, rfl, hbp, p0, p1, p2, p3, p4, p5, p6, p7, p8, p9⟩ := SE.ten (hse.kept hK1 (fun _ _ h => h)) i (by omega)
                rw [← h2] at p0 p1 p2 p3 p4 p5 p6 p7 p8 p9
                have d1 : decide ((i : Int) < (n1 : Int)) = true := decide_eq_true (by omega)
                have d2 : decide ((n1 : Int) ≤ (i : Int)) = false := decide_eq_false (by omega)
                have d3 : (i : Int) < (n1 : Int) := by omega
                have d4 : decide (n1 ≤ i) = false := decide_eq_false (by omega)
                have d5 : decide (i < n1) = true := decide_eq_true (by omega)
                have d6 : ¬ (n1 : Int) ≤ (i : Int) := by omega
                clear h2 hE hse hsq hsr HG
                go_big_region
                all_goals (go_wp2_with fail)
                all_goals exact ⟨⟨i + 1, rfl, by omega, by first | exact hK1.drew | exact hK1.drewN _⟩, by simp [intOf]; omega⟩
              · obtain ⟨bp, offp, rfl, hbp, p0, p1, p2, p3, p4, p5, p6, p7, p8, p9⟩ := SE.ten (hsq.kept hK1 (fun _ _ h => h)) (i - n1) (by omega)
                rw [← h3] at p0 p1 p2 p3 p4 p5 p6 p7 p8 p9
                obtain ⟨j, hj⟩ : ∃ j, i - n1 = j := ⟨_, rfl⟩
                rw [hj] at p0 p1 p2 p3 p4 p5 p6 p7 p8 p9 h2
                have d1 : decide ((i : Int) < (n1 : Int)) = false := decide_eq_false (by omega)
                have d2 : decide ((n1 : Int) ≤ (i : Int)) = true := decide_eq_true (by omega)
                have d3 : (i : Int) - (n1 : Int) = (j : Int) := by omega
                have d4 : IntKind.i64.wrap (j : Int) = (j : Int) := IntWalk.i64_in _ ⟨by omega, by omega⟩
                have d5 : (j : Int) < (n2 : Int) := by omega
                have d6 : decide (n1 ≤ i) = true := decide_eq_true (by omega)
                have d7 : decide (i < n1) = false := decide_eq_false (by omega)
                have d8 : ¬ (i : Int) < (n1 : Int) := by omega
                have d9 : (n1 : Int) ≤ (i : Int) := by omega
                clear h3 hE hj hse hsq hsr HG
                go_big_region
                all_goals (go_wp2_with fail)
                all_goals exact ⟨⟨i + 1, rfl, by omega, by first | exact hK1.drew | exact hK1.drewN _⟩, by simp [intOf]; omega⟩
            · obtain rfl : i = n3 := by omega
              go_wp2_with fail
              go_ret
              exact ⟨rfl, hB.trans (hK.below hB.size (fun _ _ h => h))⟩

theorem eventJoins_walk (a0 : Option Addr) (cap0 : Nat) (z0 : List (Nat → Int)) (a1 : Option Addr) (cap1 : Nat) (z1 : List (Nat → Int)) (w : World) (w0 : IsStructs 10 w a0 z0) (w1 : IsStructs 10 w a1 z1) :
    Calls Try.prog 7 #[.slice a0 z0.length cap0, .slice a1 z1.length cap1] w fun e w' => e = .returned (.bool true) ∧ Below w.heap.size w w' := by
  have := eventJoins_any a0 a1 cap0 cap1 (evs z0) (evs z1) w (isEvents w0) (isEvents w1)
  simpa [evs] using this
end Go.Proofs.Ytbdkbhicjbaffaa
